/-
  Layer 7's log, and bits, as layer 8 (raft) needs them.
-/
import Derived.Test.YtniojdaddolnfaaAa
import Derived.Test.YtniojdaddolnfaaRc
import Derived.Test.YtniojdaddolnfaaSE
import Derived.Test.YtniojdaddolnfaaSR
namespace Go.Proofs.Ytniojdaddolnfaa
open Go

theorem brNot {b : Bool} {A B : Prop} (h1 : b = false → A) (h2 : b = true → B) : cond (!b) A B := by
  cases b
  · exact h1 rfl
  · exact h2 rfl
def eRE : Enc RE 2 := ⟨fun a => [.int .i64 a.term, .string a.data], fun _ => rfl, by decide, fun x u hu => by
  simp only [List.mem_cons, List.not_mem_nil, or_false] at hu
  rcases hu with rfl | rfl <;> rfl⟩
theorem TRE : ElemT Try.prog 30 39 2 24 := .of (by kernel_rfl)
/-! ## Bits -/
theorem pow_le128 {n : Nat} (h : n ≤ 7) : 2 ^ n ≤ 128 := Nat.pow_le_pow_right (n := 2) (by decide) h
theorem bit_one {p : Int} (h0 : 0 ≤ p) (hp : p < 7) : shiftV .shl .u64 1 (IntKind.u64.wrap p) = ((2 ^ p.toNat : Nat) : Int) := by
  have h2 := pow7 h0 hp
  rw [wu64 (by omega) (by omega)]
  obtain ⟨k, rfl⟩ : ∃ k : Nat, p = k := ⟨p.toNat, by omega⟩
  have := shl_eq .u64 1 k (by show k ≤ 64; omega)
  rw [this, Int.toNat_natCast]
  rw [Int.toNat_natCast] at h2
  rw [show (1 * 2 ^ k : Int) = ((2 ^ k : Nat) : Int) by simp, wu64 (Int.natCast_nonneg _) (Int.lt_of_lt_of_le (Int.ofNat_lt.2 h2) (by decide))]
theorem bit_orT {g : Nat} {p : Int} (hg : g < 128) (h0 : 0 ≤ p) (hp : p < 7) : bitV .or .u64 (g : Int) (shiftV .shl .u64 1 (IntKind.u64.wrap p)) = ((g ||| 2 ^ p.toNat : Nat) : Int) := by
  have h2 := pow7 h0 hp
  have hor := or7 hg h0 hp
  rw [bit_one h0 hp, or_u64' (by omega) (by omega)]
theorem popT_all : ∀ x : Fin 128, ∀ (h : Heap) (R : Int → Heap → Prop), R (popT 7 x.val : Nat) h → S_math_bits_OnesCount64 ((x.val : Nat) : Int) h R := by
  intro x h R hR
  have key : ∀ x : Fin 128,
    let x1 := IntKind.u64.wrap ((bitV .and .u64 (shiftV .shr .u64 ((x.val : Nat) : Int) 1) 6148914691236517205) + (bitV .and .u64 ((x.val : Nat) : Int) 6148914691236517205))
    let x2 := IntKind.u64.wrap ((bitV .and .u64 (shiftV .shr .u64 x1 2) 3689348814741910323) + (bitV .and .u64 x1 3689348814741910323))
    let x3 := bitV .and .u64 (IntKind.u64.wrap ((shiftV .shr .u64 x2 4) + x2)) 1085102592571150095
    let x4 := IntKind.u64.wrap (x3 + (shiftV .shr .u64 x3 8))
    let x5 := IntKind.u64.wrap (x4 + (shiftV .shr .u64 x4 16))
    let x6 := IntKind.u64.wrap (x5 + (shiftV .shr .u64 x5 32))
    bitV .and .i64 (IntKind.i64.wrap x6) 127 = ((popT 7 x.val : Nat) : Int) := by decide +kernel
  have k := key x
  unfold S_math_bits_OnesCount64
  refine nneg (by decide) (let_ (nneg (by decide) (let_ (nneg (by decide) (let_ (nneg (by decide) (let_ (nneg (by decide) (let_ (nneg (by decide) (let_ ?_)))))))))))
  simp only at k
  rw [k]
  exact hR
theorem popT_ok {x : Nat} (hx : x < 128) {h : Heap} {R : Int → Heap → Prop} (hR : R (popT 7 x : Nat) h) : C_math_bits_OnesCount (x : Int) h R := by
  refine A_math_bits_OnesCount ?_
  unfold S_math_bits_OnesCount
  exact A_math_bits_OnesCount64 (popT_all ⟨x, hx⟩ h R hR)
theorem popT_le : ∀ x : Fin 128, popT 7 x.val ≤ 7 := by decide +kernel
/-- How many bits are set. -/
def bitsN (v : Nat) (n : Nat) : Nat := ((List.range n).filter fun (t : Nat) => v.testBit t).length
theorem popT_bits : ∀ x : Fin 128, popT 7 x.val = bitsN x.val 7 := by decide +kernel
/-! ## The log -/
section
variable {h0 h : Heap} {L G : List Res} {lg : Nat} {t : TypeId} {sl : Sl} {es : List RE}
theorem lastT_get {es : List RE} (h : 0 < es.length) : lastT es = es[es.length - 1].term := by
  unfold lastT
  rw [List.getLast?_eq_getElem?, List.getElem?_eq_getElem (by omega)]; rfl
theorem log_Last_ok {R : Int → Int → Heap → Prop} (H : At h0 h L) (i : Nat) (hi : L[i]? = some (.blk lg t [.slice sl.a sl.n sl.c])) (j : Nat) (hj : L[j]? = some (.own sl 2 (eRE.fl es))) (hl : es.length ≤ 100000) (hR : R (es.length : Int) (lastT es) h) : C_log_Log_Last (some ⟨lg, 0, none⟩) h R := by
  refine A_log_Log_Last ?_
  unfold S_log_Log_Last
  have hn := H.n j hj
  refine join1 (s1 := .one .bool) (fun (q : Bool) h1 => (q = true ↔ es.length = 0) ∧ h1 = h) (fun _ (q : Bool) h1 hJ => ?_) ?_
  · obtain ⟨hq, rfl⟩ := hJ
    refine brB (fun hqt => ?_) fun hqf => ?_
    · have h0 := hq.1 hqt
      have : es = [] := List.length_eq_zero_iff.1 h0
      subst this
      exact hR
    · have hp : 0 < es.length := Nat.pos_of_ne_zero fun h0 => by rw [hq.2 h0] at hqf; cases hqf
      refine nn (ldAt0 H i hi sl rfl (let_ (nn (ldAt0 H i hi sl rfl ?_))))
      rw [w64 (by omega) (by omega)]
      refine ixAt H j hj (es.length - 1) (by omega) (by omega) fun e he => ?_
      refine ldEl0 (E := eRE) H j hj he (by omega) (lastT es) (by rw [lastT_get hp]; rfl) ?_
      rw [hn]; exact hR
  · refine brF (nn (ldAt0 H i hi sl rfl ⟨?_, rfl⟩))
    rw [beq_iff_eq]; omega
theorem log_Term_ok {index : Int} {R : Int → Bool → Heap → Prop} (H : At h0 h L) (i : Nat) (hi : L[i]? = some (.blk lg t [.slice sl.a sl.n sl.c])) (j : Nat) (hj : L[j]? = some (.own sl 2 (eRE.fl es))) (hl : es.length ≤ 100000) (hR : R (termAt es index).1 (termAt es index).2 h) : C_log_Log_Term (some ⟨lg, 0, none⟩) index h R := by
  refine A_log_Log_Term ?_
  unfold S_log_Log_Term
  have hn := H.n j hj
  unfold termAt at hR
  refine join0 (fun h1 => h1 = h ∧ 0 < index ∧ index ≤ es.length) (fun _ h1 hJ => ?_) ?_
  · obtain ⟨rfl, h1, h2⟩ := hJ
    refine nn (ldAt0 H i hi sl rfl ?_)
    rw [w64 (by omega) (by omega)]
    have hk : index.toNat - 1 < es.length := by omega
    rw [if_neg (by omega), if_neg (by omega), List.getElem?_eq_getElem hk] at hR
    refine ixAt H j hj (index.toNat - 1) (by omega) hk fun e he => ?_
    exact ldEl0 (E := eRE) H j hj he hk _ rfl hR
  · refine brF (brD (fun h1 => ?_) fun h1 => ?_)
    · rw [if_pos (.inl h1)] at hR; exact hR
    · refine nn (ldAt0 H i hi sl rfl (brD (fun h2 => ?_) fun h2 => ?_))
      · rw [if_pos (.inr (by omega))] at hR; exact hR
      · refine br beq_iff_eq (fun h3 => ?_) fun h3 => ⟨rfl, by omega, by omega⟩
        rw [if_neg (by omega), if_pos h3] at hR; exact hR
theorem log_Younger_ok {index term : Int} {R : Bool → Heap → Prop} (H : At h0 h L) (i : Nat) (hi : L[i]? = some (.blk lg t [.slice sl.a sl.n sl.c])) (j : Nat) (hj : L[j]? = some (.own sl 2 (eRE.fl es))) (hl : es.length ≤ 100000) (hR : R (decide (youngB es index term)) h) : C_log_Log_Younger (some ⟨lg, 0, none⟩) index term h R := by
  refine A_log_Log_Younger ?_
  unfold S_log_Log_Younger
  refine log_Last_ok H i hi j hj hl (brT (brD (fun h1 => ?_) fun h1 => ?_))
  · rw [decide_eq_true (show youngB es index term from .inl h1)] at hR; exact hR
  · refine br beq_iff_eq (fun h2 => ?_) fun h2 => ?_
    · have e : decide (youngB es index term) = decide (index ≥ es.length) := by
        rw [decide_eq_decide]; unfold youngB
        exact ⟨fun x => by omega, fun x => .inr ⟨h2, x⟩⟩
      rw [e] at hR; exact hR
    · rw [decide_eq_false (show ¬ youngB es index term from fun x => by unfold youngB at x; omega)] at hR; exact hR
/-- Two rows of things, the second one made behind the first one's heap. -/
theorem At.join {h' : Heap} {M : List Res} (H : At h0 h L) (H2 : At h h' M) : At h0 h' (M ++ L) := by
  have H' := H.ext' H2.ext
  refine ⟨H'.ext, fun r hr => ?_, fun r hr g hg => ?_, List.pairwise_append.2 ⟨H2.sep, H.sep, fun a ha b hb g hg x => ?_⟩⟩
  · rcases List.mem_append.1 hr with hr | hr
    · exact H2.ok r hr
    · exact H'.ok r hr
  · rcases List.mem_append.1 hr with hr | hr
    · exact Nat.le_trans H.le (H2.lo r hr g hg)
    · exact H.lo r hr g hg
  · have h1 := H2.lo a ha g hg
    have h2 := Res.lt b (H.ok b hb) g x
    omega
theorem Clone_re_ok {s : Sl} {R : Sl → Heap → Prop} (H : At h0 h L) (A : RdS h 2 s (eRE.fl es)) (hl : es.length ≤ 100000) (hR : ∀ r h', At h0 h' (.own r 2 (eRE.fl es) :: L) → R r h') : C_slices_Clone_api_Entry_api_Entry s h R := by
  refine A_slices_Clone_api_Entry_api_Entry ?_
  unfold S_slices_Clone_api_Entry_api_Entry
  have H0 := At.start h
  refine brB (fun ha => ?_) fun ha => ?_
  · have hl0 : es = [] := by
      apply List.eq_nil_of_length_eq_zero
      apply Nat.eq_zero_of_not_pos
      intro hp
      obtain ⟨g, o, hs, _⟩ := A.2 (by rw [eRE.fl_len]; omega)
      rw [hs] at ha; cases ha
    subst hl0
    exact hR _ _ (H.nil 2)
  · refine allocAt (cs := []) H0 fun h1 b H1 => ?_
    have H2 := H1.as_ 0 rfl (.own ⟨some ⟨b, 0, none⟩, 0, 0⟩ 2 (eRE.fl [])) (Own.full (H1.get 0 rfl : Blk h1 b _ []) (sz := 2) (n := 0) rfl (by decide)) (fun g hg => by have hg : some b = some g := hg; injection hg with hg; exact hg.symm)
    refine appAt (ys := es) TRE H2 0 rfl (H2.arg A) (by simp; omega) (by simp; omega) fun s' h' H3 => ?_
    rw [List.nil_append] at H3
    exact hR s' h' (H.join H3)
theorem log_New_ok {s : Sl} {R : Option Addr → Heap → Prop} (H : At h0 h L) (A : RdS h 2 s (eRE.fl es)) (hl : es.length ≤ 100000) (hR : ∀ lg sl h', At h0 h' (.blk lg 74 [.slice sl.a sl.n sl.c] :: .own sl 2 (eRE.fl es) :: L) → R (some ⟨lg, 0, none⟩) h') : C_log_New s h R := by
  refine A_log_New ?_
  unfold S_log_New
  refine Clone_re_ok H A hl fun r h1 H => ?_
  exact allocAt (cs := [.slice r.a r.n r.c]) H fun h2 b H => hR b r h2 H
theorem log_All_ok {R : Sl → Heap → Prop} (H : At h0 h L) (i : Nat) (hi : L[i]? = some (.blk lg t [.slice sl.a sl.n sl.c])) (j : Nat) (hj : L[j]? = some (.own sl 2 (eRE.fl es))) (hl : es.length ≤ 100000) (hR : ∀ r h', At h0 h' (.own r 2 (eRE.fl es) :: L) → R r h') : C_log_Log_All (some ⟨lg, 0, none⟩) h R := by
  refine A_log_Log_All ?_
  unfold S_log_Log_All
  refine brF (nn (ldAt0 H i hi sl rfl ?_))
  exact Clone_re_ok H (H.rdo j hj) hl hR
theorem log_From_ok {index most : Int} {R : Sl → Heap → Prop} (H : At h0 h L) (i : Nat) (hi : L[i]? = some (.blk lg t [.slice sl.a sl.n sl.c])) (j : Nat) (hj : L[j]? = some (.own sl 2 (eRE.fl es))) (hl : es.length ≤ 100000) (hi1 : -1000000 ≤ index ∧ index ≤ 1000000) (hm : -1000000 ≤ most ∧ most ≤ 1000000)
    (hR : ∀ r h', At h0 h' (.own r 2 (eRE.fl (fromL es index most)) :: L) → R r h') : C_log_Log_From (some ⟨lg, 0, none⟩) index most h R := by
  refine A_log_Log_From ?_
  unfold S_log_Log_From
  have hn := H.n j hj
  unfold fromL at hR
  refine log_Last_ok H i hi j hj hl (let_ ?_)
  generalize hx : (if 1 > index then 1 else index) = x at *
  have hx1 : 1 ≤ x ∧ x ≤ 1000000 := by split at hx <;> omega
  refine join1 (s1 := .one .bool) (fun (q : Bool) h1 => (q = true ↔ (x > es.length ∨ most < 1)) ∧ h1 = h) (fun _ (q : Bool) h1 hJ => ?_) ?_
  · obtain ⟨hq, rfl⟩ := hJ
    refine brB (fun hqt => ?_) fun hqf => ?_
    · have e : (es.drop (x.toNat - 1)).take most.toNat = [] := by
        rcases hq.1 hqt with h2 | h2
        · rw [List.drop_eq_nil_of_le (by omega), List.take_nil]
        · rw [show most.toNat = 0 by omega, List.take_zero]
      rw [e] at hR
      exact hR _ _ (H.nil 2)
    · have hno : ¬ (x > es.length ∨ most < 1) := fun h2 => by rw [hq.2 h2] at hqf; cases hqf
      refine nn (ldAt0 H i hi sl rfl ?_)
      have hc := (H.own j hj).2.1
      rw [w64 (n := x - 1) (by omega) (by omega), w64 (n := (es.length : Int) - x) (by omega) (by omega), w64 (n := (es.length : Int) - x + 1) (by omega) (by omega)]
      generalize hy : (if (es.length : Int) - x + 1 < most then (es.length : Int) - x + 1 else most) = y
      have hy1 : 1 ≤ y ∧ y ≤ (es.length : Int) - x + 1 := by split at hy <;> omega
      rw [w64 (by omega) (by omega)]
      refine cutR (E := eRE) TRE (H.rdo j hj) (x.toNat - 1) (x.toNat - 1 + y.toNat) sl.c (loi (by omega)) (hii (by omega)) (.inl ⟨rfl, rfl⟩) (by omega) (by omega) (by omega) (Nat.le_refl _) fun s2 r2 n2 c2 b2 => ?_
      have e : (es.drop (x.toNat - 1)).take (x.toNat - 1 + y.toNat - (x.toNat - 1)) = (es.drop (x.toNat - 1)).take most.toNat := by
        rw [show x.toNat - 1 + y.toNat - (x.toNat - 1) = y.toNat by omega]
        split at hy
        · rw [List.take_of_length_le (by rw [List.length_drop]; omega), List.take_of_length_le (by rw [List.length_drop]; omega)]
        · rw [hy]
      rw [e] at r2
      exact Clone_re_ok H r2 (by rw [List.length_take, List.length_drop]; omega) hR
  · refine brD (fun h2 => ⟨⟨fun _ => .inl h2, fun _ => rfl⟩, rfl⟩) fun h2 => ⟨?_, rfl⟩
    rw [decide_eq_true_iff]
    exact ⟨fun h3 => .inr h3, fun h3 => by omega⟩
theorem log_Add_ok {tm : Int} {dt : ByteArray} {R : Int → Heap → Prop} (H : At h0 h (.blk lg t [.slice sl.a sl.n sl.c] :: .own sl 2 (eRE.fl es) :: G)) (hl : es.length ≤ 100000)
    (h1 : tm < lastT es → ∀ h', At h0 h' (.blk lg t [.slice sl.a sl.n sl.c] :: .own sl 2 (eRE.fl es) :: G) → R 5 h') (h2 : ¬ tm < lastT es → es.length ≥ 1024 → ∀ h', At h0 h' (.blk lg t [.slice sl.a sl.n sl.c] :: .own sl 2 (eRE.fl es) :: G) → R 7 h')
    (h3 : ¬ tm < lastT es → ¬ es.length ≥ 1024 → ∀ h' sl', At h0 h' (.blk lg t [.slice sl'.a sl'.n sl'.c] :: .own sl' 2 (eRE.fl (es ++ [⟨tm, dt⟩])) :: G) → R 0 h') : C_log_Log_Add (some ⟨lg, 0, none⟩) (tm, dt, ()) h R := by
  refine A_log_Log_Add ?_
  unfold S_log_Log_Add
  refine allocAt (cs := [.int .i64 tm, .string dt]) H fun h b H => ?_
  refine log_Last_ok H 1 rfl 2 rfl hl (brF ?_)
  repeat (first | with_reducible refine nn ?_ | with_reducible refine let_ ?_ | with_reducible refine brSome ?_ | with_reducible refine brF ?_ | with_reducible refine brT ?_ | ((with_reducible apply ldAt H 0); exact rfl; exact rfl) | ((with_reducible apply ldAt0 H 0); exact rfl; exact rfl) | ((with_reducible apply stAt H 0); exact rfl; exact rfl; intro h H) | ((with_reducible apply stAt0 H 0); exact rfl; exact rfl; intro h H) | ((with_reducible refine ⟨?_, ?_⟩); first | ((with_reducible apply ldAt H 0); exact rfl; exact rfl; exact rfl) | ((with_reducible apply ldAt0 H 0); exact rfl; exact rfl; exact rfl)))
  refine brD (fun h4 => h1 h4 _ H.tail) fun h4 => ?_
  refine brD (fun h5 => h2 h4 (by omega) _ H.tail) fun h5 => ?_
  repeat (first | with_reducible refine nn ?_ | with_reducible refine let_ ?_ | with_reducible refine brSome ?_ | with_reducible refine brF ?_ | with_reducible refine brT ?_ | ((with_reducible apply ldAt H 0); exact rfl; exact rfl) | ((with_reducible apply ldAt0 H 0); exact rfl; exact rfl) | ((with_reducible apply ldAt H 1); exact rfl; exact rfl) | ((with_reducible apply ldAt0 H 1); exact rfl; exact rfl) | ((with_reducible apply ldAt H 2); exact rfl; exact rfl) | ((with_reducible apply ldAt0 H 2); exact rfl; exact rfl) | ((with_reducible apply stAt H 0); exact rfl; exact rfl; intro h H) | ((with_reducible apply stAt0 H 0); exact rfl; exact rfl; intro h H) | ((with_reducible apply stAt H 1); exact rfl; exact rfl; intro h H) | ((with_reducible apply stAt0 H 1); exact rfl; exact rfl; intro h H) | ((with_reducible apply stAt H 2); exact rfl; exact rfl; intro h H) | ((with_reducible apply stAt0 H 2); exact rfl; exact rfl; intro h H) | ((with_reducible apply allocAt H); intro h b H) | ((with_reducible refine ⟨?_, ?_⟩); first | ((with_reducible apply ldAt H 0); exact rfl; exact rfl; exact rfl) | ((with_reducible apply ldAt0 H 0); exact rfl; exact rfl; exact rfl) | ((with_reducible apply ldAt H 1); exact rfl; exact rfl; exact rfl) | ((with_reducible apply ldAt0 H 1); exact rfl; exact rfl; exact rfl) | ((with_reducible apply ldAt H 2); exact rfl; exact rfl; exact rfl) | ((with_reducible apply ldAt0 H 2); exact rfl; exact rfl; exact rfl)))
  refine app1B (E := eRE) TRE H 3 rfl 0 rfl ⟨tm, dt⟩ rfl (by omega) (by omega) fun s3 h H => ?_
  repeat (first | with_reducible refine nn ?_ | with_reducible refine let_ ?_ | with_reducible refine brSome ?_ | with_reducible refine brF ?_ | with_reducible refine brT ?_ | ((with_reducible apply ldAt H 0); exact rfl; exact rfl) | ((with_reducible apply ldAt0 H 0); exact rfl; exact rfl) | ((with_reducible apply ldAt H 1); exact rfl; exact rfl) | ((with_reducible apply ldAt0 H 1); exact rfl; exact rfl) | ((with_reducible apply ldAt H 2); exact rfl; exact rfl) | ((with_reducible apply ldAt0 H 2); exact rfl; exact rfl) | ((with_reducible apply stAt H 0); exact rfl; exact rfl; intro h H) | ((with_reducible apply stAt0 H 0); exact rfl; exact rfl; intro h H) | ((with_reducible apply stAt H 1); exact rfl; exact rfl; intro h H) | ((with_reducible apply stAt0 H 1); exact rfl; exact rfl; intro h H) | ((with_reducible apply stAt H 2); exact rfl; exact rfl; intro h H) | ((with_reducible apply stAt0 H 2); exact rfl; exact rfl; intro h H) | ((with_reducible apply allocAt H); intro h b H) | ((with_reducible refine ⟨?_, ?_⟩); first | ((with_reducible apply ldAt H 0); exact rfl; exact rfl; exact rfl) | ((with_reducible apply ldAt0 H 0); exact rfl; exact rfl; exact rfl) | ((with_reducible apply ldAt H 1); exact rfl; exact rfl; exact rfl) | ((with_reducible apply ldAt0 H 1); exact rfl; exact rfl; exact rfl) | ((with_reducible apply ldAt H 2); exact rfl; exact rfl; exact rfl) | ((with_reducible apply ldAt0 H 2); exact rfl; exact rfl; exact rfl)))
  exact h3 h4 (by omega) _ s3 H.tail.tail
end
end Go.Proofs.Ytniojdaddolnfaa
