/-
  Layer 5 (wal), over plain lists: what bytes tell, what a crash and a spoilt byte leave.
-/
import Derived.Test.YtnognoiaakiepaaF1
import Derived.Test.YtnognoiaakiepaaD1
namespace Go.Proofs.Ytnognoiaakiepaa

structure WRec where
  kind : UInt8
  data : List UInt8
def WRec.ok (r : WRec) : Prop := r.kind ≠ 0 ∧ r.data.length < 4096
def recM (r : WRec) : List UInt8 := frameM (r.kind :: r.data)
def recsM (l : List WRec) : List UInt8 := l.flatMap recM
theorem recM_length (r : WRec) : (recM r).length = r.data.length + 9 := by unfold recM; rw [frameM_length]; simp
theorem recsM_cons (r : WRec) (l : List WRec) : recsM (r :: l) = recM r ++ recsM l := List.flatMap_cons ..
theorem recsM_app (a b : List WRec) : recsM (a ++ b) = recsM a ++ recsM b := List.flatMap_append ..
/-- Reading, from an offset on. -/
def walM (l : List UInt8) : Nat → List WRec → Nat → List WRec × Nat × Int
  | 0, out, a => (out, a, 0)
  | f + 1, out, a =>
    if a < l.length then
      if (takeM (l.drop a)).2.2 ≠ 0 then (out, a, (takeM (l.drop a)).2.2)
      else match (takeM (l.drop a)).1 with
        | [] => (out, a, 2)
        | k :: d => if k = 0 then (out, a, 2) else walM l f (out ++ [⟨k, d⟩]) (a + (takeM (l.drop a)).2.1)
    else (out, a, 0)
def walR (l : List UInt8) : List WRec × Nat × Int := walM l (l.length + 1) [] 0
/-- The program's way: all frames first. -/
def payM : List (List UInt8) → List WRec → Nat → Int → List WRec × Nat × Int
  | [], out, a, e => (out, a, e)
  | p :: ps, out, a, e => match p with
    | [] => (out, a, 2)
    | k :: d => if k = 0 then (out, a, 2) else payM ps (out ++ [⟨k, d⟩]) (a + (d.length + 1 + 8)) e
theorem allM_acc (l : List UInt8) : ∀ (f : Nat) (ps : List (List UInt8)) (a : Nat), ∃ qs, (allM l f ps a).1 = ps ++ qs ∧ (allM l f ps a).2 = (allM l f [] a).2 ∧ (allM l f [] a).1 = qs
  | 0, ps, a => ⟨[], by simp [allM], rfl, rfl⟩
  | f + 1, ps, a => by
    unfold allM
    split
    · split
      · exact ⟨[], by simp, rfl, rfl⟩
      · obtain ⟨qs, h1, h2, h3⟩ := allM_acc l f (ps ++ [(takeM (l.drop a)).1]) (a + (takeM (l.drop a)).2.1)
        obtain ⟨qs', h1', h2', h3'⟩ := allM_acc l f ([] ++ [(takeM (l.drop a)).1]) (a + (takeM (l.drop a)).2.1)
        have e : qs = qs' := h3.symm.trans h3'
        subst e
        exact ⟨(takeM (l.drop a)).1 :: qs, by rw [h1]; simp, by rw [h2, h2'], by rw [h1']; simp⟩
    · exact ⟨[], by simp, rfl, rfl⟩
theorem pay_wal (l : List UInt8) : ∀ (f a : Nat) (out : List WRec), payM (allM l f [] a).1 out a (allM l f [] a).2.2 = walM l f out a
  | 0, a, out => rfl
  | f + 1, a, out => by
    unfold walM
    rw [show allM l (f + 1) [] a = if a < l.length then (if (takeM (l.drop a)).2.2 ≠ 0 then ([], a, (takeM (l.drop a)).2.2) else allM l f ([] ++ [(takeM (l.drop a)).1]) (a + (takeM (l.drop a)).2.1)) else ([], a, 0) from rfl]
    split
    · split
      · rfl
      · rename_i hz
        obtain ⟨_, _, t3, _⟩ := takeM_ok (Classical.not_not.1 hz)
        obtain ⟨qs, h1, h2, h3⟩ := allM_acc l f ([] ++ [(takeM (l.drop a)).1]) (a + (takeM (l.drop a)).2.1)
        rw [h1, h2]
        have ih := fun out => pay_wal l f (a + (takeM (l.drop a)).2.1) out
        simp only [List.nil_append, List.singleton_append, payM]
        split
        · rfl
        · rename_i k d hd
          split
          · rfl
          · rw [← ih, h3]
            rw [hd] at t3
            simp only [List.length_cons] at t3
            rw [show d.length + 1 + 8 = (takeM (l.drop a)).2.1 by omega]
    · rfl
theorem walM_step {l : List UInt8} {f a : Nat} {out : List WRec} (hf : l.length < f + a) (ha : a < l.length) : walM l f out a =
    if (takeM (l.drop a)).2.2 ≠ 0 then (out, a, (takeM (l.drop a)).2.2)
      else match (takeM (l.drop a)).1 with
        | [] => (out, a, 2)
        | k :: d => if k = 0 then (out, a, 2) else walM l (f - 1) (out ++ [⟨k, d⟩]) (a + (takeM (l.drop a)).2.1) := by
  obtain ⟨f, rfl⟩ : ∃ g, f = g + 1 := ⟨f - 1, by omega⟩
  rw [walM, if_pos ha]; rfl
theorem walM_done {l : List UInt8} {f a : Nat} {out : List WRec} (ha : ¬ a < l.length) : walM l f out a = (out, a, 0) := by
  cases f with
  | zero => rfl
  | succ f => rw [walM, if_neg ha]
/-- Whole records are read, whatever stands behind. -/
theorem walM_recs (ahead : List UInt8) : ∀ (rs : List WRec) (rest : List UInt8) (f : Nat) (out : List WRec) (a : Nat), (∀ r ∈ rs, r.ok) → a = ahead.length → (ahead ++ recsM rs ++ rest).length < f + a →
    ∃ f', (ahead ++ recsM rs ++ rest).length < f' + (a + (recsM rs).length) ∧ walM (ahead ++ recsM rs ++ rest) f out a = walM (ahead ++ recsM rs ++ rest) f' (out ++ rs) (a + (recsM rs).length) := by
  intro rs
  induction rs generalizing ahead with
  | nil => intro rest f out a _ ha hf; exact ⟨f, by simpa [recsM] using hf, by simp [recsM]⟩
  | cons r rs ih =>
    intro rest f out a hok ha hf
    have hr := hok r (List.mem_cons_self ..)
    have hl := recM_length r
    have e : ahead ++ recsM (r :: rs) ++ rest = ahead ++ recM r ++ recsM rs ++ rest := by rw [recsM_cons]; simp
    have ed : (ahead ++ recM r ++ recsM rs ++ rest).drop a = recM r ++ (recsM rs ++ rest) := by
      rw [ha]; simp
    have et : takeM (recM r ++ (recsM rs ++ rest)) = (r.kind :: r.data, r.data.length + 9, 0) := by
      have := takeM_frame (r.kind :: r.data) (recsM rs ++ rest) (by have := hr.2; simp; omega)
      exact this
    rw [e] at hf ⊢
    have hla : a < (ahead ++ recM r ++ recsM rs ++ rest).length := by simp only [List.length_append]; omega
    obtain ⟨f', h1, h2⟩ := ih (ahead ++ recM r) rest (f - 1) (out ++ [r]) (a + (r.data.length + 9)) (fun x hx => hok x (List.mem_cons_of_mem _ hx)) (by rw [List.length_append]; omega) (by omega)
    have el : a + (recsM (r :: rs)).length = a + (r.data.length + 9) + (recsM rs).length := by rw [recsM_cons, List.length_append]; omega
    rw [el]
    refine ⟨f', h1, ?_⟩
    rw [walM_step hf hla, ed, et]
    simp only [ne_eq, not_true_eq_false, if_false]
    rw [if_neg hr.1, h2]
    simp
/-- A part of a frame, with a byte that may be another one. -/
theorem takeM_part_flp (p : List UInt8) (n i : Nat) (c : UInt8) (h : p.length ≤ 4096) (hn : n < p.length + 8) : (takeM (flp ((frameM p).take n) i c)).2.2 ≠ 0 := by
  by_cases h4 : n < 4
  · rw [takeM_short' (by rw [flp_length, List.length_take]; omega)]; decide
  · have hi := hi_nat (p := p) (by omega)
    have lo := lo_nat p
    obtain ⟨m, rfl⟩ : ∃ m, n = m + 4 := ⟨n - 4, by omega⟩
    have e : (frameM p).take (m + 4) = [hiB p, loB p, 255 - hiB p, 255 - loB p] ++ (p ++ le4 (crcOf p)).take m := rfl
    rw [e]
    by_cases hi4 : i < 4
    · rw [flp_app1 (by exact hi4)]
      have s1 := sub255 (hiB p)
      have s2 := sub255 (loB p)
      have l1 := (hiB p).toNat_lt
      have l2 := (loB p).toNat_lt
      by_cases hc : c.toNat = 0
      · have hc0 : c = 0 := UInt8.toNat_inj.1 hc
        have ef : flp [hiB p, loB p, 255 - hiB p, 255 - loB p] i c = [hiB p, loB p, 255 - hiB p, 255 - loB p] := by
          subst hc0
          unfold flp
          have : i = 0 ∨ i = 1 ∨ i = 2 ∨ i = 3 := by omega
          rcases this with rfl | rfl | rfl | rfl <;> simp
        rw [ef]
        show (takeM (hiB p :: loB p :: (255 - hiB p) :: (255 - loB p) :: (p ++ le4 (crcOf p)).take m)).2.2 ≠ 0
        rw [takeM_head p _ h, if_pos (by rw [List.length_take, List.length_append, le4_length]; omega)]; decide
      · have ne : ∀ x : UInt8, (x ^^^ c).toNat ≠ x.toNat := fun x e => xor_ne hc (UInt8.toNat_inj.1 e)
        have := ne (hiB p); have := ne (loB p); have := ne (255 - hiB p); have := ne (255 - loB p)
        have : i = 0 ∨ i = 1 ∨ i = 2 ∨ i = 3 := by omega
        rcases this with rfl | rfl | rfl | rfl
        · show (takeM ((hiB p ^^^ c) :: loB p :: (255 - hiB p) :: (255 - loB p) :: (p ++ le4 (crcOf p)).take m)).2.2 ≠ 0
          rw [takeM_cons, if_neg (by omega)]; decide
        · show (takeM (hiB p :: (loB p ^^^ c) :: (255 - hiB p) :: (255 - loB p) :: (p ++ le4 (crcOf p)).take m)).2.2 ≠ 0
          rw [takeM_cons, if_neg (by omega)]; decide
        · show (takeM (hiB p :: loB p :: ((255 - hiB p) ^^^ c) :: (255 - loB p) :: (p ++ le4 (crcOf p)).take m)).2.2 ≠ 0
          rw [takeM_cons, if_neg (by omega)]; decide
        · show (takeM (hiB p :: loB p :: (255 - hiB p) :: ((255 - loB p) ^^^ c) :: (p ++ le4 (crcOf p)).take m)).2.2 ≠ 0
          rw [takeM_cons, if_neg (by omega)]; decide
    · rw [flp_app2 (by show 4 ≤ i; omega)]
      show (takeM (hiB p :: loB p :: (255 - hiB p) :: (255 - loB p) :: flp ((p ++ le4 (crcOf p)).take m) (i - 4) c)).2.2 ≠ 0
      rw [takeM_head p _ h, if_pos (by rw [flp_length, List.length_take, List.length_append, le4_length]; omega)]; decide
/-- What a crash leaves of records: some of the first ones are read, then it stops. -/
theorem walM_crash (ahead : List UInt8) : ∀ (ts : List WRec) (keep i : Nat) (c : UInt8) (f : Nat) (out : List WRec), (∀ r ∈ ts, r.ok) → (ahead ++ flp ((recsM ts).take keep) i c).length < f + ahead.length →
    ∃ j e, j ≤ ts.length ∧ walM (ahead ++ flp ((recsM ts).take keep) i c) f out ahead.length = (out ++ ts.take j, ahead.length + (recsM (ts.take j)).length, e) ∧ (flp ((recsM ts).take keep) i c).take (recsM (ts.take j)).length = recsM (ts.take j) := by
  intro ts
  induction ts generalizing ahead with
  | nil =>
    intro keep i c f out _ _
    refine ⟨0, 0, Nat.zero_le _, ?_, rfl⟩
    have e : flp ((recsM []).take keep) i c = [] := by simp [recsM, flp]
    rw [e, List.append_nil, walM_done (by omega)]
    simp [recsM]
  | cons r ts ih =>
    intro keep i c f out hok hf
    have hr := hok r (List.mem_cons_self ..)
    have hl := recM_length r
    have stop : ∀ e : Int, e ≠ 0 → (takeM (flp ((recsM (r :: ts)).take keep) i c)).2.2 = e → ∃ j e, j ≤ (r :: ts).length ∧ walM (ahead ++ flp ((recsM (r :: ts)).take keep) i c) f out ahead.length = (out ++ (r :: ts).take j, ahead.length + (recsM ((r :: ts).take j)).length, e) ∧ (flp ((recsM (r :: ts)).take keep) i c).take (recsM ((r :: ts).take j)).length = recsM ((r :: ts).take j) := by
      intro e he ht
      by_cases hn : ahead.length < (ahead ++ flp ((recsM (r :: ts)).take keep) i c).length
      · refine ⟨0, e, Nat.zero_le _, ?_, rfl⟩
        rw [walM_step hf hn, List.drop_left, ht, if_pos he]
        simp [recsM]
      · refine ⟨0, 0, Nat.zero_le _, ?_, rfl⟩
        rw [walM_done hn]
        simp [recsM]
    by_cases hk : keep < (recM r).length
    · have e : (recsM (r :: ts)).take keep = (recM r).take keep := by rw [recsM_cons, List.take_append_of_le_length (by omega)]
      refine stop _ ?_ rfl
      rw [e]
      exact takeM_part_flp (r.kind :: r.data) keep i c (by have := hr.2; simp; omega) (by simp; omega)
    · have e : (recsM (r :: ts)).take keep = recM r ++ (recsM ts).take (keep - (recM r).length) := by
        rw [recsM_cons, List.take_append, List.take_of_length_le (by omega)]
      have go : flp ((recsM (r :: ts)).take keep) i c = recM r ++ flp ((recsM ts).take (keep - (recM r).length)) (i - (recM r).length) c ∨ (takeM (flp ((recsM (r :: ts)).take keep) i c)).2.2 ≠ 0 ∨ flp ((recsM (r :: ts)).take keep) i c = recM r ++ flp ((recsM ts).take (keep - (recM r).length)) ((recsM ts).length + 1) c := by
        rw [e]
        by_cases hi : i < (recM r).length
        · right
          rw [flp_app1 hi]
          by_cases hc : c.toNat = 0
          · right
            have hc0 : c = 0 := UInt8.toNat_inj.1 hc
            subst hc0
            rw [flp_in hi, flp_out (l := (recsM ts).take _) (by rw [List.length_take]; omega)]
            simp
          · left
            rw [flp_in hi]
            refine takeM_turn (r.kind :: r.data) _ i _ (by have := hr.2; simp; omega) hi ?_
            show (recM r)[i]? ≠ _
            rw [List.getElem?_eq_getElem hi]
            exact fun e => xor_ne hc (Option.some.inj e).symm
        · left
          exact flp_app2 (by omega) c
      have cont : ∀ i', flp ((recsM (r :: ts)).take keep) i c = recM r ++ flp ((recsM ts).take (keep - (recM r).length)) i' c → ∃ j e, j ≤ (r :: ts).length ∧ walM (ahead ++ flp ((recsM (r :: ts)).take keep) i c) f out ahead.length = (out ++ (r :: ts).take j, ahead.length + (recsM ((r :: ts).take j)).length, e) ∧ (flp ((recsM (r :: ts)).take keep) i c).take (recsM ((r :: ts).take j)).length = recsM ((r :: ts).take j) := by
        intro i' he
        rw [he] at hf ⊢
        have et : takeM (recM r ++ flp ((recsM ts).take (keep - (recM r).length)) i' c) = (r.kind :: r.data, r.data.length + 9, 0) := takeM_frame (r.kind :: r.data) _ (by have := hr.2; simp; omega)
        have hla : ahead.length < (ahead ++ (recM r ++ flp ((recsM ts).take (keep - (recM r).length)) i' c)).length := by simp only [List.length_append]; omega
        obtain ⟨j, e', hj, h2, h3⟩ := ih (ahead ++ recM r) (keep - (recM r).length) i' c (f - 1) (out ++ [r]) (fun x hx => hok x (List.mem_cons_of_mem _ hx)) (by simp only [List.length_append] at hf ⊢; omega)
        refine ⟨j + 1, e', by simp; omega, ?_, by rw [List.take_succ_cons, recsM_cons, List.length_append, List.take_length_add_append, h3]⟩
        rw [walM_step hf hla, List.drop_left, et]
        simp only [ne_eq, not_true_eq_false, if_false]
        rw [if_neg hr.1]
        rw [List.append_assoc] at h2
        rw [show ahead.length + (r.data.length + 9) = (ahead ++ recM r).length by rw [List.length_append]; omega, h2]
        simp only [List.take_succ_cons, recsM_cons, List.length_append, List.append_assoc, List.singleton_append, Nat.add_assoc]
      rcases go with h1 | h1 | h1
      · exact cont _ h1
      · exact stop _ h1 rfl
      · exact cont _ h1
theorem walM_le (l : List UInt8) : ∀ (f : Nat) (out : List WRec) (a : Nat), a ≤ l.length → a ≤ (walM l f out a).2.1 ∧ (walM l f out a).2.1 ≤ l.length ∧ (walM l f out a).1.length + a ≤ out.length + (walM l f out a).2.1
  | 0, out, a, h => ⟨Nat.le_refl _, h, Nat.le_refl _⟩
  | f + 1, out, a, h => by
    unfold walM
    split
    · split
      · exact ⟨Nat.le_refl _, h, Nat.le_refl _⟩
      · rename_i hz
        obtain ⟨t1, t2, t3, t4⟩ := takeM_ok (Classical.not_not.1 hz)
        rw [List.length_drop] at t2
        split
        · exact ⟨Nat.le_refl _, h, Nat.le_refl _⟩
        · split
          · exact ⟨Nat.le_refl _, h, Nat.le_refl _⟩
          · obtain ⟨h1, h2, h3⟩ := walM_le l f (out ++ [⟨_, _⟩]) (a + (takeM (l.drop a)).2.1) (by omega)
            rw [List.length_append] at h3
            exact ⟨by omega, h2, by simp only [List.length_cons, List.length_nil] at h3; omega⟩
    · exact ⟨Nat.le_refl _, h, Nat.le_refl _⟩
/-- A spoilt byte stops the reading ahead of it. -/
theorem walM_spoilt (ahead : List UInt8) : ∀ (rs : List WRec) (k : Nat) (c : UInt8) (rest : List UInt8) (f : Nat) (out : List WRec), (∀ r ∈ rs, r.ok) → k < (recsM rs).length → c.toNat ≠ 0 → (ahead ++ flp (recsM rs) k c ++ rest).length < f + ahead.length →
    (walM (ahead ++ flp (recsM rs) k c ++ rest) f out ahead.length).2.1 ≤ ahead.length + k := by
  intro rs
  induction rs generalizing ahead with
  | nil => intro k c rest f out _ hk; simp [recsM] at hk
  | cons r rs ih =>
    intro k c rest f out hok hk hc hf
    have hr := hok r (List.mem_cons_self ..)
    have hl := recM_length r
    have hla : ahead.length < (ahead ++ flp (recsM (r :: rs)) k c ++ rest).length := by
      simp only [List.length_append, flp_length, recsM_cons]; omega
    by_cases hkr : k < (recM r).length
    · rw [walM_step hf hla, if_pos]
      · exact Nat.le_add_right _ _
      · rw [List.append_assoc, List.drop_left, recsM_cons, flp_app1 hkr, flp_in hkr, List.append_assoc]
        refine takeM_turn (r.kind :: r.data) _ k _ (by have := hr.2; simp; omega) hkr ?_
        show (recM r)[k]? ≠ _
        rw [List.getElem?_eq_getElem hkr]
        exact fun e => xor_ne hc (Option.some.inj e).symm
    · have e : ahead ++ flp (recsM (r :: rs)) k c ++ rest = (ahead ++ recM r) ++ flp (recsM rs) (k - (recM r).length) c ++ rest := by rw [recsM_cons, flp_app2 (by omega)]; simp
      rw [e] at hf hla ⊢
      have et : takeM (recM r ++ (flp (recsM rs) (k - (recM r).length) c ++ rest)) = (r.kind :: r.data, r.data.length + 9, 0) := takeM_frame (r.kind :: r.data) _ (by have := hr.2; simp; omega)
      have hk2 : k - (recM r).length < (recsM rs).length := by rw [recsM_cons, List.length_append] at hk; omega
      have := ih (ahead ++ recM r) (k - (recM r).length) c rest (f - 1) (out ++ [r]) (fun x hx => hok x (List.mem_cons_of_mem _ hx)) hk2 hc (by simp only [List.length_append] at hf ⊢; omega)
      rw [walM_step hf hla]
      have ed : (ahead ++ recM r ++ flp (recsM rs) (k - (recM r).length) c ++ rest).drop ahead.length = recM r ++ (flp (recsM rs) (k - (recM r).length) c ++ rest) := by simp
      rw [ed, et]
      simp only [ne_eq, not_true_eq_false, if_false]
      rw [if_neg hr.1]
      rw [List.length_append] at this
      rw [show ahead.length + (r.data.length + 9) = ahead.length + (recM r).length by omega]
      show (walM _ (f - 1) (out ++ [r]) (ahead.length + (recM r).length)).2.1 ≤ ahead.length + k
      omega
end Go.Proofs.Ytnognoiaakiepaa
