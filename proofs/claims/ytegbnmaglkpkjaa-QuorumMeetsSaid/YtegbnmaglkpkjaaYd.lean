/-
  Layer 36 (quorum): the calls that read systems.
-/
import Derived.Test.YtegbnmaglkpkjaaYc
namespace Go.Proofs.Ytegbnmaglkpkjaa
open Go

theorem tr {a b c : Heap} (e1 : Ext a.size a b) (e2 : Ext b.size b c) : Ext a.size a c := e1.trans (e2.mono e1.1)
theorem brNS {a : Addr} {A B : Prop} (hA : A) : cond (!(some a).isNone) A B := hA
theorem nnI {r : QR} {sl : Sl} {K : Value → Prop} (hK : K (ruleV r sl)) : NnI (ruleV r sl) K := by cases r <;> exact hK
section
variable {h : Heap} {d n : Nat} {r : QR}
theorem SysR.ldn (S : SysR h d n r) {K : Int → Prop} (hK : K n) : Ld (.int .i64) h ⟨d, 0, none⟩ K := by
  obtain ⟨_, sl, h1, _, _⟩ := S
  exact ⟨(n : Int), h1, hK⟩
theorem is_ok (S : SysR h d n r) (hok : r.ok n) {x : Nat} (hx : x < 18446744073709551616) {R : Bool → Heap → Prop} (hR : ∀ h', Ext h.size h h' → R (r.q (x % 2 ^ n)) h') : C_quorum_System_Is (some ⟨d, 0, none⟩) (x : Int) h R := by
  obtain ⟨lt, sl, h1, h2, h3⟩ := S
  have hn := QR.ok7 hok
  refine A_quorum_System_Is ?_
  unfold S_quorum_System_Is
  refine brNS (nn ⟨ruleV r sl, h2, nn ⟨(n : Int), h1, nnI ?_⟩⟩)
  refine all_ok hn ?_
  refine ⟨⟨ruleV r sl, h2, rfl⟩, ?_⟩
  rw [and_mod hx hn]
  exact holds_ok (d := d) h3 hok (lt128 hn (Nat.mod_lt _ (Nat.two_pow_pos n))) fun h' e => hR h' e
theorem is_nil {x : Int} {R : Bool → Heap → Prop} (hR : R false h) : C_quorum_System_Is none x h R := by
  refine A_quorum_System_Is ?_
  unfold S_quorum_System_Is
  exact hR
theorem Nodes_ok (S : SysR h d n r) {R : Int → Heap → Prop} (hR : R n h) : C_quorum_System_Nodes (some ⟨d, 0, none⟩) h R := by
  refine A_quorum_System_Nodes ?_
  unfold S_quorum_System_Nodes
  exact brSome (nn (S.ldn hR))
def lAll (q : Nat → Bool) (x j : Nat) : Bool := (List.range j).all fun i => !x.testBit i || !q (x - 2 ^ i)
theorem lAll_succ (q : Nat → Bool) (x j : Nat) : lAll q x (j + 1) = (lAll q x j && (!x.testBit j || !q (x - 2 ^ j))) := by unfold lAll; rw [List.range_succ, List.all_append]; simp
theorem lAll_le {q : Nat → Bool} {x j m : Nat} (hj : j ≤ m) (hf : lAll q x j = false) : lAll q x m = false := by
  induction m with
  | zero => obtain rfl : j = 0 := by omega
            exact hf
  | succ m ih =>
    rcases Nat.lt_or_ge m j with h1 | h1
    · obtain rfl : j = m + 1 := by omega
      exact hf
    · rw [lAll_succ, ih h1]; rfl
theorem leastB_eq (q : Nat → Bool) (n x : Nat) : leastB q n x = (q x && lAll q x n) := rfl
theorem lst_ok (S : SysR h d n r) (hok : r.ok n) {x : Nat} (hx : x < 2 ^ n) {R : Bool → Heap → Prop} (hR : ∀ h', Ext h.size h h' → R (leastB r.q n x) h') : C_quorum_System_least (some ⟨d, 0, none⟩) (x : Int) h R := by
  have hn := QR.ok7 hok
  have hx1 := lt128 hn hx
  refine A_quorum_System_least ?_
  unfold S_quorum_System_least
  refine nn (S.ldn ?_)
  refine loop1 (s1 := .one (.int .i64)) (fun (y : Int) h1 => ∃ j : Nat, y = j ∧ j ≤ n ∧ lAll r.q x j = true ∧ Ext h.size h h1) (fun (y : Int) _ => (n - y).toNat) ⟨0, rfl, Nat.zero_le _, rfl, Ext.refl _ _⟩ fun _ (y : Int) h1 hI => ?_
  obtain ⟨j, rfl, hj, hall, e1⟩ := hI
  refine brD (fun hc => ?_) fun hc => ?_
  · have hj2 : j < n := by omega
    have u : IntKind.u64.wrap (j : Int) = j := wu64 (by omega) (by omega)
    refine nneg (by rw [u]; omega) ?_
    have b1 := bit_is ⟨x, hx1⟩ ⟨j, by omega⟩
    simp only at b1
    rw [b1, w64 (n := (j : Int) + 1) (by omega) (by omega)]
    refine brB (fun hb => ?_) fun hb => ?_
    · refine nneg (by rw [u]; omega) ?_
      have b2 := bit_off ⟨x, hx1⟩ ⟨j, by omega⟩ hb
      simp only at b2
      rw [b2]
      have hx2 : x - 2 ^ j ≤ x := Nat.sub_le _ _
      generalize hz : x - 2 ^ j = z at hx2
      refine is_ok (S.ext e1) hok (by omega) fun h2 e2 => ?_
      rw [Nat.mod_eq_of_lt (by omega)]
      subst hz
      refine brB (fun hq => ?_) fun hq => ?_
      · have hf : lAll r.q x (j + 1) = false := by rw [lAll_succ, hb, hq]; simp
        have hR := hR h2 (tr e1 e2)
        rw [leastB_eq, lAll_le (by omega) hf, Bool.and_false] at hR
        exact hR
      · exact ⟨⟨j + 1, by omega, by omega, by rw [lAll_succ, hall, hb, hq]; rfl, tr e1 e2⟩, by omega⟩
    · exact ⟨⟨j + 1, by omega, by omega, by rw [lAll_succ, hall, hb]; rfl, e1⟩, by omega⟩
  · obtain rfl : j = n := by omega
    refine is_ok (S.ext e1) hok (by omega) fun h2 e2 => ?_
    have hR := hR h2 (tr e1 e2)
    rw [leastB_eq, hall, Bool.and_true] at hR
    rw [Nat.mod_eq_of_lt hx]
    exact hR
theorem least_len (q : Nat → Bool) (n j : Nat) : ((List.range j).filter (leastB q n)).length ≤ j := by
  have := List.length_filter_le (leastB q n) (List.range j)
  rwa [List.length_range] at this
theorem Least_ok (S : SysR h d n r) (hok : r.ok n) {R : Sl → Heap → Prop} (hR : ∀ s h', Ext h.size h h' → RdS h' 1 s (eS.fl (leastL r.q n)) → R s h') : C_quorum_System_Least (some ⟨d, 0, none⟩) h R := by
  have hn := QR.ok7 hok
  have p1 := pow128 hn
  refine A_quorum_System_Least ?_
  unfold S_quorum_System_Least
  refine brSome (nn (S.ldn ?_))
  refine all_ok hn ?_
  have e0 := allP_eq ⟨n, by omega⟩
  simp only at e0
  rw [e0]
  refine loop2 (s1 := .one .sl) (s2 := .one (.int .u64)) (fun (s : Sl) (y : Int) h1 => ∃ j : Nat, y = j ∧ j ≤ 2 ^ n ∧ At h h1 [.own s 1 (eS.fl ((List.range j).filter (leastB r.q n)))]) (fun _ (y : Int) _ => ((2 ^ n : Nat) - y).toNat) ⟨0, rfl, Nat.zero_le _, (At.start h).nil 1⟩ fun _ (s : Sl) (y : Int) h1 hI => ?_
  obtain ⟨j, rfl, hj, H⟩ := hI
  refine brD (fun hc => ?_) fun hc => ?_
  · have hj2 : j < 2 ^ n := by omega
    refine lst_ok (S.ext H.ext) hok hj2 fun h2 e2 => ?_
    have H := H.ext' e2
    rw [wu64 (n := (j : Int) + 1) (by omega) (by omega)]
    refine brB (fun hb => ?_) fun hb => ?_
    · have ll := least_len r.q n j
      refine app1At (E := eS) TUint H 0 rfl j (by omega) (by omega) fun s' h' H => ?_
      refine ⟨⟨j + 1, by omega, by omega, ?_⟩, by omega⟩
      rw [List.range_succ, List.filter_append, List.filter_cons, if_pos hb]
      exact H
    · refine ⟨⟨j + 1, by omega, by omega, ?_⟩, by omega⟩
      rw [List.range_succ, List.filter_append, List.filter_cons, if_neg (by rw [hb]; decide), List.filter_nil, List.append_nil]
      exact H
  · obtain rfl : j = 2 ^ n := by omega
    exact hR s h1 H.ext (H.rdo 0 rfl)
theorem Survives_ok (S : SysR h d n r) (hok : r.ok n) {x : Nat} (hx : x < 2 ^ n) {R : Bool → Heap → Prop} (hR : ∀ h', Ext h.size h h' → R (r.q (2 ^ n - 1 - x)) h') : C_quorum_System_Survives (some ⟨d, 0, none⟩) (x : Int) h R := by
  have hn := QR.ok7 hok
  have p1 := pow128 hn
  refine A_quorum_System_Survives ?_
  unfold S_quorum_System_Survives
  refine brNS (nn (S.ldn ?_))
  refine all_ok hn ?_
  have e0 := not_all ⟨n, by omega⟩ ⟨x, by omega⟩ hx
  simp only at e0
  rw [e0]
  refine is_ok S hok (by omega) fun h' e => ?_
  rw [Nat.mod_eq_of_lt (by omega)]
  exact hR h' e
theorem tolF_succ (q : Nat → Bool) (n m : Nat) : tolF q n (m + 1) = if q (2 ^ n - 1 - m) = true then tolF q n m else min (tolF q n m) (csm one m 7) := rfl
theorem tolF_bd {q : Nat → Bool} {n : Nat} : ∀ m, 0 ≤ tolF q n m ∧ tolF q n m ≤ n
  | 0 => ⟨by unfold tolF; omega, Int.le_refl _⟩
  | m + 1 => by
    have h1 := tolF_bd (q := q) (n := n) m
    have h2 := (csm_le (f := one) (m := m) (n := 7) fun i _ => one_nonneg i).1
    unfold tolF
    split
    · exact h1
    · omega
theorem Tol_ok (S : SysR h d n r) (hok : r.ok n) {R : Int → Heap → Prop} (hR : ∀ h', Ext h.size h h' → R (tolF r.q n (2 ^ n) - 1) h') : C_quorum_System_Tolerates (some ⟨d, 0, none⟩) h R := by
  have hn := QR.ok7 hok
  have p1 := pow128 hn
  refine A_quorum_System_Tolerates ?_
  unfold S_quorum_System_Tolerates
  refine brSome (nn (S.ldn (nn (S.ldn ?_))))
  refine all_ok hn ?_
  have e0 := allP_eq ⟨n, by omega⟩
  simp only at e0
  rw [e0]
  refine loop2 (s1 := .one (.int .i64)) (s2 := .one (.int .u64)) (fun (l y : Int) h1 => ∃ j : Nat, y = j ∧ j ≤ 2 ^ n ∧ l = tolF r.q n j ∧ Ext h.size h h1) (fun _ (y : Int) _ => ((2 ^ n : Nat) - y).toNat) ⟨0, rfl, Nat.zero_le _, rfl, Ext.refl _ _⟩ fun _ (l y : Int) h1 hI => ?_
  obtain ⟨j, rfl, hj, rfl, e1⟩ := hI
  refine brD (fun hc => ?_) fun hc => ?_
  · have hj2 : j < 2 ^ n := by omega
    refine Survives_ok (S.ext e1) hok hj2 fun h2 e2 => ?_
    rw [wu64 (n := (j : Int) + 1) (by omega) (by omega)]
    refine brNot (fun hq => ?_) fun hq => ?_
    · refine pop_ok (by omega) (let_ ⟨⟨j + 1, by omega, by omega, ?_, tr e1 e2⟩, by omega⟩)
      have e3 := tolF_succ r.q n j
      rw [if_neg (by rw [hq]; decide)] at e3
      rw [e3]
      split <;> omega
    · refine ⟨⟨j + 1, by omega, by omega, ?_, tr e1 e2⟩, by omega⟩
      rw [tolF_succ, if_pos hq]
  · obtain rfl : j = 2 ^ n := by omega
    have := tolF_bd (q := r.q) (n := n) (2 ^ n)
    rw [w64 (by omega) (by omega)]
    exact hR h1 e1
theorem Tol_nil {R : Int → Heap → Prop} (hR : R 0 h) : C_quorum_System_Tolerates none h R := by
  refine A_quorum_System_Tolerates ?_
  unfold S_quorum_System_Tolerates
  exact hR
/-! ## Meeting -/
theorem any_ok {s : Sl} {l : List Nat} {a c : Nat} (A : RdS h 1 s (eS.fl l)) (hl : l.length ≤ 128) (hs : ∀ x ∈ l, x < 128) (ha : a < 128) (hcell : cellH h ⟨c, 0, none⟩ = some (.int .u64 (a : Int))) {R : Bool → Heap → Prop} (hR : R (!l.all fun b => decide (a &&& b ≠ 0)) h) : C_slices_ContainsFunc_uint_uint s (.func (.func 79) #[] #[.pointer (some ⟨c, 0, none⟩)]) h R := by
  refine A_slices_ContainsFunc_uint_uint ?_
  unfold S_slices_ContainsFunc_uint_uint
  refine A_slices_IndexFunc_uint_uint ?_
  unfold S_slices_IndexFunc_uint_uint
  have hn := rdn A
  refine loop1 (s1 := .one (.int .i64)) (fun (y : Int) h1 => ∃ j : Nat, y = j ∧ j ≤ l.length ∧ ((l.take j).all fun b => decide (a &&& b ≠ 0)) = true ∧ h1 = h) (fun (y : Int) _ => (l.length - y).toNat) ⟨0, rfl, Nat.zero_le _, rfl, rfl⟩ fun _ (y : Int) h1 hI => ?_
  obtain ⟨j, rfl, hj, hall, rfl⟩ := hI
  refine brD (fun hc => ?_) fun hc => ?_
  · have hj2 : j < l.length := by omega
    refine ixR A j rfl hj2 fun e he => ?_
    refine ldR0 A he hj2 ((l[j] : Nat) : Int) rfl ?_
    refine A_quorum_System_Meets_1 ?_
    unfold S_quorum_System_Meets_1
    refine ld (k := .int .u64) (a : Int) hcell ?_
    have hb := hs _ (List.getElem_mem hj2)
    have e1 := and_sets ⟨a, ha⟩ ⟨l[j], hb⟩
    simp only at e1
    rw [e1, w64 (n := (j : Int) + 1) (by omega) (by omega)]
    refine br beq_iff_eq (fun hz => ?_) fun hz => ?_
    · show R (decide ((j : Int) ≥ 0)) _
      rw [decide_eq_true (by omega : (j : Int) ≥ 0)]
      have hf : (l.all fun b => decide (a &&& b ≠ 0)) = false := by
        rw [List.all_eq_false]
        exact ⟨l[j], List.getElem_mem hj2, by rw [decide_eq_false (by omega)]; decide⟩
      rw [hf] at hR
      exact hR
    · refine ⟨⟨j + 1, by omega, by omega, ?_, rfl⟩, by omega⟩
      rw [List.take_succ_eq_append_getElem hj2, List.all_append, hall, Bool.true_and, List.all_cons, List.all_nil, Bool.and_true]
      exact decide_eq_true (by omega)
  · obtain rfl : j = l.length := by omega
    rw [List.take_length] at hall
    rw [hall] at hR
    exact hR
theorem leastL_lt {q : Nat → Bool} (hn : n ≤ 7) : ∀ x ∈ leastL q n, x < 128 := fun x hx => lt128 hn (mem_least.1 hx).1
theorem leastL_len {q : Nat → Bool} (hn : n ≤ 7) : (leastL q n).length ≤ 128 := Nat.le_trans (least_len q n _) (pow128 hn)
theorem Meets_ok {d' : Nat} {r' : QR} (S : SysR h d n r) (hok : r.ok n) (S' : SysR h d' n r') (hok' : r'.ok n) {R : Bool → Heap → Prop} (hR : ∀ h', Ext h.size h h' → R (meetsB r.q r'.q n) h') : C_quorum_System_Meets (some ⟨d, 0, none⟩) (some ⟨d', 0, none⟩) h R := by
  have hn := QR.ok7 hok
  refine A_quorum_System_Meets ?_
  unfold S_quorum_System_Meets
  refine join1 (s1 := .one .bool) (fun (b : Bool) h1 => b = false ∧ h1 = h) (fun _ (b : Bool) h1 hJ => ?_) ?_
  · obtain ⟨rfl, rfl⟩ := hJ
    refine brF ?_
    refine Least_ok S' hok' fun s' h2 e2 A' => ?_
    refine Least_ok (S.ext e2) hok fun s h3 e3 A => ?_
    have A' := A'.ext' e3
    have hl := leastL_len (q := r.q) hn
    have hsn := rdn A
    refine loop1 (s1 := .one (.int .i64)) (fun (y : Int) h4 => ∃ j : Nat, y = j ∧ j ≤ (leastL r.q n).length ∧ (((leastL r.q n).take j).all fun a => (leastL r'.q n).all fun b => decide (a &&& b ≠ 0)) = true ∧ Ext h3.size h3 h4) (fun (y : Int) _ => ((leastL r.q n).length - y).toNat) ⟨0, rfl, Nat.zero_le _, rfl, Ext.refl _ _⟩ fun _ (y : Int) h4 hI => ?_
    obtain ⟨j, rfl, hj, hall, e4⟩ := hI
    refine brD (fun hc => ?_) fun hc => ?_
    · have hj2 : j < (leastL r.q n).length := by omega
      have ha := leastL_lt (q := r.q) hn _ (List.getElem_mem hj2)
      refine ixR (A.ext' e4) j rfl hj2 fun e he => ?_
      refine ldR0 (A.ext' e4) he hj2 ((((leastL r.q n)[j]) : Nat) : Int) rfl ?_
      have H := At.start h4
      refine allocAt (cs := [.int .u64 0]) H fun h5 c H => ?_
      refine stAt0 H 0 rfl rfl fun h6 H => ?_
      refine any_ok (A'.ext' (tr e4 H.ext)) (leastL_len hn) (leastL_lt hn) ha (Blk.cell (H.get 0 rfl : Blk h6 c _ _) 0) ?_
      rw [w64 (n := (j : Int) + 1) (by omega) (by omega)]
      refine brB (fun hb => ?_) fun hb => ?_
      · have hf : meetsB r.q r'.q n = false := by
          unfold meetsB
          rw [List.all_eq_false]
          refine ⟨(leastL r.q n)[j], List.getElem_mem hj2, ?_⟩
          rw [Bool.not_eq_true'] at hb
          rw [hb]; decide
        have hR := hR h6 (tr e2 (tr e3 (tr e4 H.ext)))
        rw [hf] at hR
        exact hR
      · refine ⟨⟨j + 1, by omega, by omega, ?_, tr e4 H.ext⟩, by omega⟩
        rw [Bool.not_eq_false'] at hb
        rw [List.take_succ_eq_append_getElem hj2, List.all_append, hall, Bool.true_and, List.all_cons, List.all_nil, Bool.and_true]
        exact hb
    · obtain rfl : j = (leastL r.q n).length := by omega
      rw [List.take_length] at hall
      have hR := hR h4 (tr e2 (tr e3 e4))
      unfold meetsB at hR
      rw [hall] at hR
      exact hR
  · refine brSome (brSome (nn (S.ldn (nn (S'.ldn ⟨?_, rfl⟩)))))
    exact bne_self_eq_false _
theorem Meets_nil {o : Option Addr} {R : Bool → Heap → Prop} (hR : R false h) : C_quorum_System_Meets o none h R := by
  refine A_quorum_System_Meets ?_
  unfold S_quorum_System_Meets
  refine join1 (s1 := .one .bool) (fun (b : Bool) h1 => b = true ∧ h1 = h) (fun _ (b : Bool) h1 hJ => ?_) ?_
  · obtain ⟨rfl, rfl⟩ := hJ
    exact hR
  · cases o with
    | none => exact ⟨rfl, rfl⟩
    | some a => exact ⟨rfl, rfl⟩
end
end Go.Proofs.Ytegbnmaglkpkjaa
