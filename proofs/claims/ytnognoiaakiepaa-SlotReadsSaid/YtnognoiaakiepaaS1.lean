/-
  Layer 33 (slot), over plain lists: what two slots tell, and what an installing, a cut off one, or a spoilt byte leaves.
-/
import Derived.Test.YtnognoiaakiepaaV1
import Derived.Test.YtnognoiaakiepaaWa
namespace Go.Proofs.Ytnognoiaakiepaa
open Go

theorem mInt_cases (p : List UInt8) (least most : Int) : mInt false p least most = (true, [], 0) ∨ (8 ≤ p.length ∧ ∃ v, mInt false p least most = (false, p.drop 8, v) ∧ least ≤ v ∧ v ≤ most) := by
  unfold mInt
  split
  · exact .inl rfl
  · rename_i h
    split
    · rename_i h2
      exact .inr ⟨by omega, _, rfl, h2.1, h2.2⟩
    · exact .inl rfl
theorem wrap_u64 {n : Int} (h1 : -9223372036854775808 ≤ n) (h2 : n ≤ 9223372036854775807) : IntKind.i64.wrap (u64 n : Int) = n := by
  rw [IntKind.wrap_i64]; unfold u64; omega
theorem mInt_be8 {n : Int} (c : List UInt8) {least most : Int} (h1 : -9223372036854775808 ≤ n) (h2 : n ≤ 9223372036854775807) (h3 : least ≤ n) (h4 : n ≤ most) : mInt false (be8 n ++ c) least most = (false, c, n) := by
  have hl := be8_length n
  have e1 : (be8 n ++ c).take 8 = be8 n := by rw [← hl, List.take_left]
  have e2 : (be8 n ++ c).drop 8 = c := by rw [← hl, List.drop_left]
  unfold mInt
  rw [if_neg (by rw [List.length_append]; simp; omega), e1, e2, valBE_be8, wrap_u64 h1 h2, if_pos ⟨h3, h4⟩]
/-- A payload's content, and its number. -/
def numM (p : List UInt8) : List UInt8 × Nat := ((mInt false p 1 1099511627776).2.1, (mInt false p 1 1099511627776).2.2.toNat)
theorem numM_bad {p : List UInt8} (h : mInt false p 1 1099511627776 = (true, [], 0)) : numM p = ([], 0) := by unfold numM; rw [h]; rfl
theorem numM_le (p : List UInt8) : (numM p).2 ≤ 1099511627776 ∧ ((numM p).2 = 0 → (numM p).1 = []) ∧ (numM p).1.length ≤ p.length := by
  rcases mInt_cases p 1 1099511627776 with h | ⟨_, v, h, h1, h2⟩
  · rw [numM_bad h]; exact ⟨by decide, fun _ => rfl, Nat.zero_le _⟩
  · unfold numM
    rw [h]
    refine ⟨by show v.toNat ≤ _; omega, fun (h0 : v.toNat = 0) => by omega, by show (p.drop 8).length ≤ _; rw [List.length_drop]; omega⟩
theorem numM_be8 {n : Nat} (c : List UInt8) (h1 : 1 ≤ n) (h2 : n ≤ 1099511627776) : numM (be8 (n : Int) ++ c) = (c, n) := by
  unfold numM
  rw [mInt_be8 c (by omega) (by omega) (by omega) (by omega)]
  simp
/-- A slot's content, and its number. -/
def wholeS (b : List UInt8) : List UInt8 × Nat := if (wholeM b).2 ≠ 0 then ([], 0) else numM (wholeM b).1
theorem wholeS_le (b : List UInt8) : (wholeS b).2 ≤ 1099511627776 ∧ ((wholeS b).2 = 0 → (wholeS b).1 = []) := by
  unfold wholeS
  split
  · exact ⟨by decide, fun _ => rfl⟩
  · exact ⟨(numM_le _).1, (numM_le _).2.1⟩
theorem wholeS_bad {b : List UInt8} (h : (takeM b).2.2 ≠ 0) : wholeS b = ([], 0) := by
  have e : wholeM b = ((takeM b).1, (takeM b).2.2) := by unfold wholeM; rw [if_neg (fun x => h x.1)]
  unfold wholeS
  rw [e, if_pos h]
theorem wholeS_nil : wholeS [] = ([], 0) := wholeS_bad (by decide)
def slotB (n : Nat) (c : List UInt8) : List UInt8 := frameM (be8 (n : Int) ++ c)
theorem slotB_length (n : Nat) (c : List UInt8) : (slotB n c).length = c.length + 16 := by unfold slotB; rw [frameM_length, List.length_append, be8_length]; omega
theorem wholeS_slotB {n : Nat} {c : List UInt8} (hc : c.length ≤ 4088) (h1 : 1 ≤ n) (h2 : n ≤ 1099511627776) : wholeS (slotB n c) = (c, n) := by
  have hl : (be8 (n : Int) ++ c).length ≤ 4096 := by rw [List.length_append, be8_length]; omega
  have e : takeM (slotB n c) = (be8 (n : Int) ++ c, (be8 (n : Int) ++ c).length + 8, 0) := by
    have := takeM_frame (be8 (n : Int) ++ c) [] hl
    rwa [List.append_nil] at this
  have e2 : wholeM (slotB n c) = (be8 (n : Int) ++ c, 0) := by
    unfold wholeM
    rw [e, if_neg]
    intro x
    have := x.2
    simp only [slotB_length, List.length_append, be8_length] at this
    omega
  unfold wholeS
  rw [e2]
  exact numM_be8 c h1 h2
theorem wholeS_turn {n : Nat} {c : List UInt8} (hc : c.length ≤ 4088) {i : Nat} (hi : i < (slotB n c).length) {y : UInt8} (hy : y.toNat ≠ 0) : wholeS (flp (slotB n c) i y) = ([], 0) := by
  refine wholeS_bad ?_
  rw [flp_in hi]
  have := takeM_turn (be8 (n : Int) ++ c) [] i ((slotB n c)[i] ^^^ y) (by rw [List.length_append, be8_length]; omega) hi (by
    show (slotB n c)[i]? ≠ _
    rw [List.getElem?_eq_getElem hi]
    exact fun e => xor_ne hy (Option.some.inj e).symm)
  rwa [List.append_nil] at this
theorem flp_zero (l : List UInt8) (i : Nat) {y : UInt8} (hy : y.toNat = 0) : flp l i y = l := by
  have : y = 0 := UInt8.toNat_inj.1 hy
  subst this
  by_cases h : i < l.length
  · rw [flp_in h]; simp
  · exact flp_out (by omega) _
/-- What a crash leaves of a slot's frame that wasn't synced is the frame, or nothing that is whole. -/
theorem wholeS_crash {n : Nat} {c : List UInt8} (hc : c.length ≤ 4088) (keep at_ : Int) (y : UInt8) : crashL (slotB n c) 0 keep at_ y = slotB n c ∨ wholeS (crashL (slotB n c) 0 keep at_ y) = ([], 0) := by
  have hl : (be8 (n : Int) ++ c).length ≤ 4096 := by rw [List.length_append, be8_length]; omega
  unfold crashL
  simp only [Nat.sub_zero, Nat.zero_add]
  generalize hk : min keep.toNat (slotB n c).length = k
  by_cases hf : k = (slotB n c).length
  · rw [List.take_of_length_le (by omega)]
    split
    · rename_i h
      by_cases hy : y.toNat = 0
      · exact .inl (flp_zero _ _ hy)
      · exact .inr (wholeS_turn hc (by omega) hy)
    · exact .inl rfl
  · have hk2 : k < (be8 (n : Int) ++ c).length + 8 := by
      have := slotB_length n c
      rw [List.length_append, be8_length]
      omega
    refine .inr ?_
    split
    · exact wholeS_bad (takeM_part_flp _ _ _ _ hl hk2)
    · refine wholeS_bad ?_
      show (takeM ((frameM (be8 (n : Int) ++ c)).take k)).2.2 ≠ 0
      rw [takeM_part _ _ hl hk2]; decide
theorem crashL_full (b : List UInt8) (keep at_ : Int) (y : UInt8) : crashL b b.length keep at_ y = b := by
  unfold crashL
  rw [Nat.sub_self, Nat.min_zero, Nat.add_zero, if_neg (by omega), List.take_length]
theorem crashL_nil (keep at_ : Int) (y : UInt8) : crashL [] 0 keep at_ y = [] := crashL_full [] keep at_ y
theorem crashL_length (b : List UInt8) (n : Nat) (keep at_ : Int) (y : UInt8) : (crashL b n keep at_ y).length ≤ b.length := by
  unfold crashL
  split
  · rw [flp_length, List.length_take]; omega
  · rw [List.length_take]; omega
/-! ## Two slots -/
def newestS (a b : List UInt8) : Nat × List UInt8 × Nat := if (wholeS a).2 < (wholeS b).2 then (1, wholeS b) else (0, wholeS a)
def atS (a b : List UInt8) : Nat := if 0 < (newestS a b).2.2 then 1 - (newestS a b).1 else (newestS a b).1
def selS (k : Nat) (a b : List UInt8) : List UInt8 := if k = 0 then a else b
def twoS (k : Nat) (a b t : List UInt8) : List UInt8 × List UInt8 := if k = 0 then (t, b) else (a, t)
theorem newestS_le (a b : List UInt8) : (newestS a b).1 < 2 ∧ (newestS a b).2.2 ≤ 1099511627776 ∧ ((newestS a b).2.2 = 0 → (newestS a b).2.1 = []) := by
  unfold newestS
  split
  · exact ⟨Nat.lt_succ_self 1, wholeS_le _⟩
  · exact ⟨Nat.zero_lt_succ 1, wholeS_le _⟩
theorem atS_lt (a b : List UInt8) : atS a b < 2 := by
  have := (newestS_le a b).1
  unfold atS
  split <;> omega
/-- What a new slot tells: nothing, or the next number. -/
theorem newest_put (a b t : List UInt8) : (wholeS t = ([], 0) → (newestS (twoS (atS a b) a b t).1 (twoS (atS a b) a b t).2).2 = (newestS a b).2) ∧
    (∀ c, wholeS t = (c, (newestS a b).2.2 + 1) → (newestS (twoS (atS a b) a b t).1 (twoS (atS a b) a b t).2).2 = (c, (newestS a b).2.2 + 1)) := by
  have ha := (wholeS_le a).2
  have hb := (wholeS_le b).2
  have e0 : ∀ x : List UInt8, (wholeS x).2 = 0 → wholeS x = ([], 0) := fun x h => Prod.ext ((wholeS_le x).2 h) h
  by_cases hlt : (wholeS a).2 < (wholeS b).2
  · have hn : newestS a b = (1, wholeS b) := by unfold newestS; rw [if_pos hlt]
    have hat : atS a b = 0 := by unfold atS; rw [hn]; simp only; rw [if_pos (by omega)]
    rw [hat, hn]
    show (wholeS t = ([], 0) → (newestS t b).2 = wholeS b) ∧ (∀ c, wholeS t = (c, (wholeS b).2 + 1) → (newestS t b).2 = (c, (wholeS b).2 + 1))
    unfold newestS
    refine ⟨fun ht => ?_, fun c ht => ?_⟩
    · rw [ht, if_pos (by show 0 < _; omega)]
    · rw [ht, if_neg (by show ¬ (wholeS b).2 + 1 < _; omega)]
  · have hn : newestS a b = (0, wholeS a) := by unfold newestS; rw [if_neg hlt]
    by_cases hz : 0 < (wholeS a).2
    · have hat : atS a b = 1 := by unfold atS; rw [hn]; simp only; rw [if_pos (by omega)]
      rw [hat, hn]
      show (wholeS t = ([], 0) → (newestS a t).2 = wholeS a) ∧ (∀ c, wholeS t = (c, (wholeS a).2 + 1) → (newestS a t).2 = (c, (wholeS a).2 + 1))
      unfold newestS
      refine ⟨fun ht => ?_, fun c ht => ?_⟩
      · rw [ht, if_neg (by show ¬ _ < 0; omega)]
      · rw [ht, if_pos (by show _ < (wholeS a).2 + 1; omega)]
    · have hat : atS a b = 0 := by unfold atS; rw [hn]; simp only; rw [if_neg (by omega)]
      have ea := e0 a (by omega)
      have eb := e0 b (by omega)
      rw [hat, hn, ea]
      show (wholeS t = ([], 0) → (newestS t b).2 = ([], 0)) ∧ (∀ c, wholeS t = (c, 0 + 1) → (newestS t b).2 = (c, 0 + 1))
      unfold newestS
      rw [eb]
      refine ⟨fun ht => ?_, fun c ht => ?_⟩
      · rw [ht]; rfl
      · rw [ht]; rfl
/-! ## The steps of an installing -/
def doesS (b : List UInt8) (n : Nat) (f : List UInt8) (most : Int) : List UInt8 × Nat := if most ≤ 0 then (b, n) else if most ≤ 1 then ([], 0) else if most ≤ 2 then (f, 0) else (f, f.length)
def tornS (b f : List UInt8) (most keep at_ : Int) (y : UInt8) : List UInt8 := crashL (doesS b b.length f most).1 (doesS b b.length f most).2 keep at_ y
theorem tornS_le {b f : List UInt8} {N : Nat} (most keep at_ : Int) (y : UInt8) (hb : b.length ≤ N) (hf : f.length ≤ N) : (tornS b f most keep at_ y).length ≤ N := by
  unfold tornS
  refine Nat.le_trans (crashL_length ..) ?_
  unfold doesS
  split
  · exact hb
  · split
    · exact Nat.zero_le _
    · split <;> exact hf
theorem tornS_cases (b : List UInt8) {n : Nat} {c : List UInt8} (hc : c.length ≤ 4088) (most keep at_ : Int) (y : UInt8) :
    (most ≤ 0 ∧ tornS b (slotB n c) most keep at_ y = b) ∨ (most ≤ 2 ∧ wholeS (tornS b (slotB n c) most keep at_ y) = ([], 0)) ∨ (2 ≤ most ∧ tornS b (slotB n c) most keep at_ y = slotB n c) := by
  unfold tornS doesS
  split
  · rename_i h; exact .inl ⟨h, crashL_full ..⟩
  · split
    · rename_i h; exact .inr (.inl ⟨by omega, by rw [crashL_nil, wholeS_nil]⟩)
    · split
      · rename_i h
        rcases wholeS_crash (n := n) hc keep at_ y with e | e
        · exact .inr (.inr ⟨by omega, e⟩)
        · exact .inr (.inl ⟨by omega, e⟩)
      · exact .inr (.inr ⟨by omega, crashL_full ..⟩)
/-! ## Contents that go by turns -/
def gd (l : List (List UInt8)) (i : Nat) : List UInt8 := l[i]?.getD []
theorem gd_in {l : List (List UInt8)} {i : Nat} (h : i < l.length) : gd l i = l[i] := by unfold gd; rw [List.getElem?_eq_getElem h]; rfl
theorem gd_out {l : List (List UInt8)} {i : Nat} (h : l.length ≤ i) : gd l i = [] := by unfold gd; rw [List.getElem?_eq_none h]; rfl
def turnS (l : List (List UInt8)) (i : Nat) : List UInt8 :=
  if l.length = 0 then [] else if (l.length - 1) % 2 = i then slotB l.length (gd l (l.length - 1)) else if l.length = 1 then [] else slotB (l.length - 1) (gd l (l.length - 2))
theorem turnS_whole {l : List (List UInt8)} (hl : l.length ≤ 1000) (hc : ∀ c ∈ l, c.length ≤ 200) (i : Nat) : wholeS (turnS l i) =
    if l.length = 0 then ([], 0) else if (l.length - 1) % 2 = i then (gd l (l.length - 1), l.length) else if l.length = 1 then ([], 0) else (gd l (l.length - 2), l.length - 1) := by
  have hg : ∀ j, (gd l j).length ≤ 4088 := fun j => by
    by_cases h : j < l.length
    · rw [gd_in h]
      have := hc _ (List.getElem_mem h)
      omega
    · rw [gd_out (by omega)]; exact Nat.zero_le _
  unfold turnS
  split
  · exact wholeS_nil
  · split
    · exact wholeS_slotB (hg _) (by omega) (by omega)
    · split
      · exact wholeS_nil
      · exact wholeS_slotB (hg _) (by omega) (by omega)
theorem turn_newest {l : List (List UInt8)} (hl : l.length ≤ 1000) (hc : ∀ c ∈ l, c.length ≤ 200) : (newestS (turnS l 0) (turnS l 1)).2.2 = l.length ∧ atS (turnS l 0) (turnS l 1) = l.length % 2 := by
  have h0 := turnS_whole hl hc 0
  have h1 := turnS_whole hl hc 1
  have key : newestS (turnS l 0) (turnS l 1) = if l.length = 0 then (0, [], 0) else ((l.length - 1) % 2, gd l (l.length - 1), l.length) := by
    unfold newestS
    by_cases hz : l.length = 0
    · rw [if_pos hz] at h0 h1 ⊢
      rw [h0, h1]; rfl
    · rw [if_neg hz] at h0 h1 ⊢
      by_cases hp : (l.length - 1) % 2 = 0
      · rw [if_pos hp] at h0
        rw [if_neg (by omega : ¬ (l.length - 1) % 2 = 1)] at h1
        have h2 : (wholeS (turnS l 1)).2 ≤ l.length - 1 := by rw [h1]; split <;> simp
        rw [h0, if_neg (by simp only; omega), hp]
      · have e1 : (l.length - 1) % 2 = 1 := by omega
        rw [if_neg hp] at h0
        rw [if_pos e1] at h1
        have h2 : (wholeS (turnS l 0)).2 ≤ l.length - 1 := by rw [h0]; split <;> simp
        rw [h1, if_pos (by simp only; omega), e1]
  unfold atS
  rw [key]
  by_cases hz : l.length = 0
  · rw [if_pos hz]; simp [hz]
  · rw [if_neg hz]
    refine ⟨rfl, ?_⟩
    show (if 0 < l.length then 1 - (l.length - 1) % 2 else (l.length - 1) % 2) = l.length % 2
    rw [if_pos (by omega)]
    omega
theorem turn_put (l : List (List UInt8)) (c : List UInt8) : twoS (l.length % 2) (turnS l 0) (turnS l 1) (slotB (l.length + 1) c) = (turnS (l ++ [c]) 0, turnS (l ++ [c]) 1) := by
  have hla : (l ++ [c]).length = l.length + 1 := by simp
  have e1 : gd (l ++ [c]) l.length = c := by rw [gd_in (by omega)]; simp
  have e2 : 0 < l.length → gd (l ++ [c]) (l.length - 1) = gd l (l.length - 1) := fun h => by
    rw [gd_in (by omega), gd_in (by omega), List.getElem_append_left (by omega)]
  unfold twoS turnS
  rw [hla]
  simp only [Nat.add_sub_cancel, show l.length + 1 - 2 = l.length - 1 by omega, e1]
  rw [if_neg (by omega : ¬ l.length + 1 = 0), if_neg (by omega : ¬ l.length + 1 = 0)]
  by_cases hz : l.length = 0
  · simp [hz]
  · rw [e2 (by omega), if_neg hz, if_neg hz]
    by_cases hp : l.length % 2 = 0
    · rw [if_pos hp, if_pos hp, if_neg (by omega : ¬ l.length % 2 = 1), if_pos (by omega : (l.length - 1) % 2 = 1), if_neg (by omega : ¬ l.length + 1 = 1)]
    · rw [if_neg hp, if_neg hp, if_pos (by omega : l.length % 2 = 1), if_pos (by omega : (l.length - 1) % 2 = 0), if_neg (by omega : ¬ l.length + 1 = 1)]
end Go.Proofs.Ytnognoiaakiepaa
