/-
  Layer 36 (quorum): the calls that make systems.
-/
import Derived.Test.YtegbnmaglkpkjaaYd
import Derived.Test.YtegbnmaglkpkjaaRh
namespace Go.Proofs.Ytegbnmaglkpkjaa
open Go

theorem ZInt : ZeroT Try.prog 3 [.int .i64 0] := ⟨by kernel_rfl⟩
section
variable {h : Heap}
theorem SysR.mk' {d n : Nat} {r : QR} {t : TypeId} {sl : Sl} (hb : Blk h d t [.int .i64 (n : Int), ruleV r sl]) (A : RdS h 1 sl (eN.fl (wsOf r))) : SysR h d n r := ⟨Blk.lt hb, sl, Blk.cell hb 0, Blk.cell hb 1, A⟩
theorem Clone_ok {s : Sl} {ws : List Int} (A : RdS h 1 s (eN.fl ws)) (hl : ws.length ≤ 12) {R : Sl → Heap → Prop} (hR : ∀ s' h', Ext h.size h h' → RdS h' 1 s' (eN.fl ws) → R s' h') : C_slices_Clone_int_int s h R := by
  refine A_slices_Clone_int_int ?_
  unfold S_slices_Clone_int_int
  have H0 := At.start h
  refine brB (fun ha => ?_) fun ha => ?_
  · have hl0 : ws = [] := by
      apply List.eq_nil_of_length_eq_zero
      apply Nat.eq_zero_of_not_pos
      intro hp
      obtain ⟨g, o, hs, _⟩ := A.2 (by rw [eN.fl_len]; omega)
      rw [hs] at ha; cases ha
    subst hl0
    exact hR _ _ H0.ext ((H0.nil 1).rdo 0 rfl)
  · refine allocAt (cs := []) H0 fun h1 b H1 => ?_
    have H2 := H1.as_ 0 rfl (.own ⟨some ⟨b, 0, none⟩, 0, 0⟩ 1 (eN.fl [])) (Own.full (H1.get 0 rfl : Blk h1 b _ []) (sz := 1) (n := 0) rfl (by decide)) (fun g hg => by have hg : some b = some g := hg; injection hg with hg; exact hg.symm)
    refine appAt (ys := ws) TInt H2 0 rfl (H2.arg A) (by simp; omega) (by simp; omega) fun s' h' H3 => ?_
    rw [List.nil_append] at H3
    exact hR s' h' H3.ext (H3.rdo 0 rfl)
theorem Weighted_ok {s : Sl} {ws : List Int} (A : RdS h 1 s (eN.fl ws)) (hl : ws.length ≤ 12) {R : Option Addr → Heap → Prop} (h1 : (QR.w ws).ok ws.length → ∀ d h', Ext h.size h h' → SysR h' d ws.length (.w ws) → R (some ⟨d, 0, none⟩) h') (h2 : ¬ (QR.w ws).ok ws.length → ∀ h', Ext h.size h h' → R none h') : C_quorum_Weighted s h R := by
  refine A_quorum_Weighted ?_
  unfold S_quorum_Weighted
  have hn := rdn A
  refine loop2 (s1 := .one (.int .i64)) (s2 := .one (.int .i64)) (fun (t x : Int) g => ∃ j : Nat, x = j ∧ j ≤ ws.length ∧ t = tot (wt ws) j ∧ 0 ≤ t ∧ t ≤ 64 * j ∧ (∀ i, i < j → 0 ≤ wt ws i ∧ wt ws i ≤ 64) ∧ g = h) (fun (_ x : Int) _ => (ws.length - x).toNat) ⟨0, rfl, Nat.zero_le _, rfl, Int.le_refl _, by decide, (fun _ hi => absurd hi (Nat.not_lt_zero _)), rfl⟩ fun _ (t x : Int) g hI => ?_
  obtain ⟨j, rfl, hj, rfl, b1, b2, hall, rfl⟩ := hI
  refine brD (fun hc => ?_) fun hc => ?_
  · have hj2 : j < ws.length := by omega
    have hw := wt_get hj2
    refine ixR A j rfl hj2 fun e he => ?_
    refine ldR0 A he hj2 ws[j] rfl ?_
    refine brD (fun hx => ?_) fun hx => ?_
    · refine h2 (fun hok => ?_) _ (Ext.refl _ _)
      have := hok.2.2.1 _ (List.getElem_mem hj2)
      omega
    · refine brD (fun hx2 => ?_) fun hx2 => ?_
      · refine h2 (fun hok => ?_) _ (Ext.refl _ _)
        have := hok.2.2.1 _ (List.getElem_mem hj2)
        omega
      · rw [w64 (n := tot (wt ws) j + ws[j]) (by omega) (by omega), w64 (n := (j : Int) + 1) (by omega) (by omega)]
        refine let_ ⟨⟨j + 1, by omega, by omega, ?_, by omega, by omega, fun i hi => ?_, rfl⟩, by omega⟩
        · show _ = tot (wt ws) j + wt ws j
          rw [hw]
        · rcases Nat.lt_or_ge i j with h3 | h3
          · exact hall i h3
          · obtain rfl : i = j := by omega
            rw [hw]; omega
  · obtain rfl : j = ws.length := by omega
    have hws : ∀ x ∈ ws, 0 ≤ x ∧ x ≤ 64 := fun x hx => by
      obtain ⟨i, hi, rfl⟩ := List.getElem_of_mem hx
      rw [← wt_get hi]
      exact hall i hi
    refine nodes_ok ?_
    refine brNot (fun hb => ?_) fun hb => ?_
    · have hb := of_decide_eq_false hb
      refine h2 (fun hok => ?_) _ (Ext.refl _ _)
      have o1 := hok.2.1
      have o2 := hok.2.2.2
      refine hb ⟨?_, by omega⟩
      rcases Nat.eq_zero_or_pos ws.length with h0 | h0
      · rw [h0] at o2
        exact absurd (show (0 : Int) < 0 from o2) (by decide)
      · omega
    · have hb := of_decide_eq_true hb
      refine br beq_iff_eq (fun hz => ?_) fun hz => ?_
      · refine h2 (fun hok => ?_) _ (Ext.refl _ _)
        have o2 := hok.2.2.2
        omega
      · have hok : (QR.w ws).ok ws.length := ⟨rfl, by omega, hws, by omega⟩
        refine Clone_ok A hl fun s' h3 e3 A' => ?_
        refine allocAt (cs := [.int .i64 ((s.n : Nat) : Int), ruleV (.w ws) s']) (At.start h3) fun h4 d H => ?_
        rw [hn] at H
        exact h1 hok d h4 (tr e3 H.ext) (SysR.mk' (H.get 0 rfl) (A'.ext' H.ext))
theorem AtLeast_ok {n k : Int} {R : Option Addr → Heap → Prop} (h1 : ∀ m : Nat, n = m → (QR.k k).ok m → ∀ d h', Ext h.size h h' → SysR h' d m (.k k) → R (some ⟨d, 0, none⟩) h') (h2 : ¬ (1 ≤ n ∧ n ≤ 7 ∧ 1 ≤ k ∧ k ≤ n) → ∀ h', Ext h.size h h' → R none h') : C_quorum_AtLeast n k h R := by
  refine A_quorum_AtLeast ?_
  unfold S_quorum_AtLeast
  refine nodes_ok ?_
  refine brNot (fun hb => ?_) fun hb => ?_
  · have hb := of_decide_eq_false hb
    exact h2 (by omega) _ (Ext.refl _ _)
  · have hb := of_decide_eq_true hb
    refine brD (fun hx => h2 (by omega) _ (Ext.refl _ _)) fun hx => brD (fun hx2 => h2 (by omega) _ (Ext.refl _ _)) fun hx2 => ?_
    obtain ⟨m, rfl⟩ := Int.eq_ofNat_of_zero_le (show 0 ≤ n by omega)
    refine allocAt (cs := [.int .i64 (m : Int), ruleV (.k k) ⟨none, 0, 0⟩]) (At.start h) fun h4 d H => ?_
    exact h1 m rfl ⟨by omega, by omega, by omega⟩ d h4 H.ext (SysR.mk' (H.get 0 rfl) (((At.start h4).nil 1).rdo 0 rfl))
theorem Joint_ok {n : Int} {a b : Nat} (ha : a < 18446744073709551616) (hb : b < 18446744073709551616) {R : Option Addr → Heap → Prop} (h1 : ∀ m : Nat, n = m → 1 ≤ m → (QR.j (a % 2 ^ m) (b % 2 ^ m)).ok m → ∀ d h', Ext h.size h h' → SysR h' d m (.j (a % 2 ^ m) (b % 2 ^ m)) → R (some ⟨d, 0, none⟩) h')
    (h2 : (∀ m : Nat, n = m → 1 ≤ m → m ≤ 7 → a % 2 ^ m = 0 ∨ b % 2 ^ m = 0) → ∀ h', Ext h.size h h' → R none h') : C_quorum_Joint n (a : Int) (b : Int) h R := by
  refine A_quorum_Joint ?_
  unfold S_quorum_Joint
  refine nodes_ok ?_
  refine brNot (fun hx => ?_) fun hx => ?_
  · have hx := of_decide_eq_false hx
    exact h2 (fun m hm h3 h4 => by omega) _ (Ext.refl _ _)
  · have hx := of_decide_eq_true hx
    obtain ⟨m, rfl⟩ := Int.eq_ofNat_of_zero_le (show 0 ≤ n by omega)
    have h7 : m ≤ 7 := by omega
    refine all_ok h7 ?_
    rw [and_mod ha h7]
    refine br beq_iff_eq (fun hz => h2 (fun m' hm _ _ => ?_) _ (Ext.refl _ _)) fun hz => ?_
    · obtain rfl : m' = m := by omega
      exact .inl (by omega)
    · refine all_ok h7 ?_
      rw [and_mod hb h7]
      refine br beq_iff_eq (fun hz => h2 (fun m' hm _ _ => ?_) _ (Ext.refl _ _)) fun hz2 => ?_
      · obtain rfl : m' = m := by omega
        exact .inr (by omega)
      · refine all_ok h7 (all_ok h7 ?_)
        rw [and_mod ha h7, and_mod hb h7]
        refine allocAt (cs := [.int .i64 (m : Int), ruleV (.j (a % 2 ^ m) (b % 2 ^ m)) ⟨none, 0, 0⟩]) (At.start h) fun h4 d H => ?_
        have hp := Nat.two_pow_pos m
        exact h1 m rfl (by omega) ⟨h7, Nat.mod_lt _ hp, Nat.mod_lt _ hp, by omega, by omega⟩ d h4 H.ext (SysR.mk' (H.get 0 rfl) (((At.start h4).nil 1).rdo 0 rfl))
theorem Grid_ok {rows cols : Int} {R : Option Addr → Heap → Prop} (h1 : ∀ r c : Nat, rows = r → cols = c → (QR.g r c).ok (r * c) → ∀ d h', Ext h.size h h' → SysR h' d (r * c) (.g r c) → R (some ⟨d, 0, none⟩) h') (h2 : (∀ r c : Nat, rows = r → cols = c → 1 ≤ r → r ≤ 7 → 1 ≤ c → c ≤ 7 → ¬ r * c ≤ 7) → ∀ h', Ext h.size h h' → R none h') : C_quorum_Grid rows cols h R := by
  refine A_quorum_Grid ?_
  unfold S_quorum_Grid
  refine nodes_ok ?_
  refine brNot (fun hx => ?_) fun hx => ?_
  · have hx := of_decide_eq_false hx
    exact h2 (fun r c hr hc _ _ _ _ => by omega) _ (Ext.refl _ _)
  · have hx := of_decide_eq_true hx
    refine nodes_ok ?_
    refine brNot (fun hy => ?_) fun hy => ?_
    · have hy := of_decide_eq_false hy
      exact h2 (fun r c hr hc _ _ _ _ => by omega) _ (Ext.refl _ _)
    · have hy := of_decide_eq_true hy
      obtain ⟨r, rfl⟩ := Int.eq_ofNat_of_zero_le (show 0 ≤ rows by omega)
      obtain ⟨c, rfl⟩ := Int.eq_ofNat_of_zero_le (show 0 ≤ cols by omega)
      have r7 : r ≤ 7 := by omega
      have c7 : c ≤ 7 := by omega
      have hm : r * c ≤ 49 := Nat.mul_le_mul r7 c7
      have e1 : IntKind.i64.wrap ((r : Int) * (c : Int)) = ((r * c : Nat) : Int) := by rw [← Int.natCast_mul, w64 (by omega) (by omega)]
      rw [e1]
      have hp : 1 ≤ r * c := Nat.mul_pos (by omega) (by omega)
      refine nodes_ok ?_
      refine brNot (fun hz => ?_) fun hz => ?_
      · have hz := of_decide_eq_false hz
        refine h2 (fun r' c' hr hc _ _ _ _ => ?_) _ (Ext.refl _ _)
        obtain rfl : r' = r := by omega
        obtain rfl : c' = c := by omega
        omega
      · have hz := of_decide_eq_true hz
        refine allocAt (cs := [.int .i64 ((r * c : Nat) : Int), ruleV (.g r c) ⟨none, 0, 0⟩]) (At.start h) fun h4 d H => ?_
        exact h1 r c rfl rfl ⟨by omega, by omega, rfl, by omega⟩ d h4 H.ext (SysR.mk' (H.get 0 rfl) (((At.start h4).nil 1).rdo 0 rfl))
/-! ## Most -/
theorem most_okq : ∀ {m : Nat}, 1 ≤ m → m ≤ 7 → (QR.w (List.replicate m 1)).ok m := fun {m} h1 h7 => by
  refine ⟨List.length_replicate, h7, fun x hx => ?_, ?_⟩
  · have := List.eq_of_mem_replicate hx
    omega
  · have : ∀ m : Fin 8, 1 ≤ m.val → 0 < tot (wt (List.replicate m.val 1)) m.val := by decide +kernel
    exact this ⟨m, by omega⟩ h1
theorem mul_ok : ∀ m : Fin 8, ∀ (h : Heap) (R : Int → Int → Heap → Prop), R 0 (m.val : Int) h → C_math_bits_Mul (IntKind.u64.wrap ((1 : Nat) : Int)) (IntKind.u64.wrap (m.val : Int)) h R := by
  intro m h R hR
  have k : ∀ m : Fin 8,
      let x := IntKind.u64.wrap ((1 : Nat) : Int)
      let y := IntKind.u64.wrap ((m.val : Nat) : Int)
      let x0 := bitV .and .u64 x 4294967295
      let x1 := shiftV .shr .u64 x 32
      let y0 := bitV .and .u64 y 4294967295
      let y1 := shiftV .shr .u64 y 32
      let w0 := IntKind.u64.wrap (x0 * y0)
      let t := IntKind.u64.wrap ((IntKind.u64.wrap (x1 * y0)) + (shiftV .shr .u64 w0 32))
      let w1 := bitV .and .u64 t 4294967295
      let w2 := shiftV .shr .u64 t 32
      let w11 := IntKind.u64.wrap (w1 + (IntKind.u64.wrap (x0 * y1)))
      IntKind.u64.wrap ((IntKind.u64.wrap ((IntKind.u64.wrap (x1 * y1)) + w2)) + (shiftV .shr .u64 w11 32)) = 0 ∧ IntKind.u64.wrap (x * y) = ((m.val : Nat) : Int) := by decide +kernel
  obtain ⟨k1, k2⟩ := k m
  refine A_math_bits_Mul ?_
  unfold S_math_bits_Mul
  refine A_math_bits_Mul64 ?_
  unfold S_math_bits_Mul64
  repeat (first | with_reducible refine let_ ?_ | with_reducible refine nneg (by decide) ?_)
  rw [k1, k2]
  exact hR
def cnt (j n : Nat) : List Value := List.replicate j (.int .i64 1) ++ List.replicate (n - j) (.int .i64 0)
theorem cutSl0 {s : Sl} {g : Nat} (ha : s.a = some ⟨g, 0, none⟩) (sz n c : Nat) : cutSl s sz 0 n c = ⟨s.a, n, c⟩ := by
  unfold cutSl
  rw [ha]
  by_cases hc : c = 0
  · rw [if_pos hc]; rfl
  · rw [if_neg hc]
    simp [Addr.add]
theorem cnt_step {j m n : Nat} (h1 : j + m ≤ n) (hm : m ≤ j) : (cnt j n).take (j * 1) ++ (((cnt j n).take (j * 1)).take (m * 1) ++ (cnt j n).drop ((j + m) * 1)) = cnt (j + m) n := by
  unfold cnt
  rw [Nat.mul_one, Nat.mul_one, Nat.mul_one]
  rw [List.take_left' List.length_replicate, List.take_replicate, List.drop_append, List.drop_eq_nil_of_le (by rw [List.length_replicate]; omega), List.nil_append, List.length_replicate, List.drop_replicate, ← List.append_assoc, List.replicate_append_replicate]
  rw [show min m j = m by omega, show n - j - (j + m - j) = n - (j + m) by omega]
theorem cnt_one {j n : Nat} (u : Value) (hu : u ∈ cnt j n) : u.oneCell' = true := by
  unfold cnt at hu
  rcases List.mem_append.1 hu with h | h
  · rw [List.eq_of_mem_replicate h]; rfl
  · rw [List.eq_of_mem_replicate h]; rfl
theorem flN (n : Nat) (x : Int) : eN.fl (List.replicate n x) = List.replicate n (.int .i64 x) := by
  induction n with
  | zero => rfl
  | succ n ih => rw [List.replicate_succ, eN.fl_cons, ih]; rfl
theorem cpy0 {s x : Sl} {g : Nat} (ha : s.a = some ⟨g, 0, none⟩) {tx : TypeId} {xs ys : List Value} {K : Int → Heap → Prop} (ho : Own h 1 s xs) (m : Nat) (hm : m = min x.n s.n) (hp : 0 < m) (hx : RdS h 1 x ys) (h1 : ∀ u ∈ ys.take (m * 1), u.oneCell' = true)
    (hk : ∀ h', Own h' 1 s (xs.take (0 * 1) ++ (ys.take (m * 1) ++ xs.drop ((0 + m) * 1))) → Upd (fun g => s.blk = some g) h h' → h'.size = h.size → K (m : Int) h') :
    OpT Try.prog (Builtin.copy_ #[51, tx] 3 #[.slice s.a s.n s.c, .slice x.a x.n x.c]) h [.one (.int .i64)] K := by
  have := cpy (ty := 3) (tx := tx) TInt ho 0 m (by rw [Nat.sub_zero]; exact hm) hp hx h1 hk
  rw [cutSl0 ha] at this
  exact this
theorem Repeat_ok {s : Sl} {n : Nat} (h1n : 1 ≤ n) (h7 : n ≤ 7) (A : RdS h 1 s (eN.fl [1])) {R : Sl → Heap → Prop} (hR : ∀ s' h', Ext h.size h h' → RdS h' 1 s' (eN.fl (List.replicate n 1)) → R s' h') : C_slices_Repeat_int_int s (n : Int) h R := by
  refine A_slices_Repeat_int_int ?_
  unfold S_slices_Repeat_int_int
  have hs1 : s.n = 1 := rdn A
  refine join0 (fun g => g = h) (fun _ h1 hJ => ?_) ?_
  · subst hJ
    have hmul : ∀ R, R 0 (n : Int) h1 → C_math_bits_Mul (IntKind.u64.wrap (s.n : Int)) (IntKind.u64.wrap (n : Int)) h1 R := fun R hR => by
      rw [hs1]
      exact mul_ok ⟨n, by omega⟩ _ _ hR
    refine hmul _ ?_
    refine join1 (s1 := .one .bool) (fun (b : Bool) g => b = false ∧ g = h1) (fun _ (b : Bool) g hJ => ?_) ?_
    · obtain ⟨rfl, rfl⟩ := hJ
      refine join0 (fun g' => g' = g) (fun _ g' hJ => ?_) (brF rfl)
      subst hJ
      have w1 : IntKind.i64.wrap (n : Int) = (n : Int) := w64 (by omega) (by omega)
      simp only [w1]
      refine mk TInt ZInt n n rfl rfl (Nat.le_refl _) (by omega) (by omega) fun h2 b2 e2 _ => ?_
      have ez : ∀ n : Nat, (List.replicate n [Value.int .i64 0]).flatten = List.replicate n (Value.int .i64 0) := fun n => by
        induction n with
        | zero => rfl
        | succ n ih => rw [List.replicate_succ, List.flatten_cons, List.replicate_succ, ih]; rfl
      rw [ez] at b2
      have H : At g' h2 [.own ⟨some ⟨g'.size, 0, none⟩, n, n⟩ 1 (cnt 0 n)] := (At.start g').new e2 (Own.full b2 (by rw [List.length_replicate, Nat.mul_one]) (by omega)) fun x hx => by
        have hx : some g'.size = some x := hx
        injection hx with hx
        omega
      have hone : ∀ u ∈ (eN.fl [1]).take (1 * 1), u.oneCell' = true := fun u hu => by
        rcases List.mem_singleton.1 (List.mem_of_mem_take hu)
        rfl
      refine cpy0 (s := ⟨some ⟨g'.size, 0, none⟩, n, n⟩) (x := s) (g := g'.size) rfl (H.own 0 rfl) 1 (by rw [hs1]; show 1 = min 1 n; omega) (Nat.le_refl _) (H.arg A) hone fun h3 o3 u3 _ => ?_
      have H : At g' h3 [.own ⟨some ⟨g'.size, 0, none⟩, n, n⟩ 1 (cnt 1 n)] := by
        refine H.turn 0 rfl (r' := .own ⟨some ⟨g'.size, 0, none⟩, n, n⟩ 1 (cnt 1 n)) u3 ?_ fun _ hg => .inl hg
        obtain ⟨k, rfl⟩ : ∃ k, n = k + 1 := ⟨n - 1, by omega⟩
        exact o3
      refine loop1 (s1 := .one (.int .i64)) (fun (y : Int) g1 => ∃ j : Nat, y = j ∧ 1 ≤ j ∧ j ≤ n ∧ At g' g1 [.own ⟨some ⟨g'.size, 0, none⟩, n, n⟩ 1 (cnt j n)]) (fun (y : Int) _ => (n - y).toNat) ⟨1, rfl, Nat.le_refl _, h1n, H⟩ fun _ (y : Int) g1 hI => ?_
      obtain ⟨j, rfl, hj1, hj, H⟩ := hI
      refine brD (fun hc => ?_) fun hc => ?_
      · have hj2 : j < n := by
          have hc : (j : Int) < (n : Int) := hc
          omega
        refine cut_from TInt j rfl hj (Nat.le_refl _) ?_
        refine cut_rd TInt (H.rdo 0 rfl) 0 j n lo0 (hii rfl) (.inl ⟨rfl, rfl⟩) (Nat.zero_le _) hj hj (Nat.le_refl _) fun s2 r2 n2 c2 _ => ?_
        have e0 : ((cnt j n).drop (0 * 1)).take ((j - 0) * 1) = (cnt j n).take (j * 1) := by rw [Nat.zero_mul, List.drop_zero, Nat.sub_zero]
        rw [e0] at r2
        refine cpy (s := ⟨some ⟨g'.size, 0, none⟩, n, n⟩) TInt (H.own 0 rfl) j (min j (n - j)) (by rw [n2]; rfl) (by omega) r2 (fun u hu => cnt_one u (List.mem_of_mem_take (List.mem_of_mem_take hu))) fun h4 o4 u4 _ => ?_
        rw [cnt_step (by omega) (by omega)] at o4
        have H := H.turn 0 rfl (r' := .own ⟨some ⟨g'.size, 0, none⟩, n, n⟩ 1 (cnt (j + min j (n - j)) n)) u4 o4 fun _ hg => .inl hg
        rw [w64 (by omega) (by omega)]
        exact let_ ⟨⟨j + min j (n - j), by omega, by omega, by omega, H⟩, by omega⟩
      · obtain rfl : j = n := by
          have hc : ¬ (j : Int) < (n : Int) := hc
          omega
        have A2 := H.rdo 0 rfl
        have e : cnt j j = eN.fl (List.replicate j 1) := by
          unfold cnt
          rw [flN, Nat.sub_self, List.replicate_zero, List.append_nil]
        rw [e] at A2
        exact hR _ _ H.ext A2
    · refine brN (decide_eq_false (by decide)) ⟨decide_eq_false ?_, rfl⟩
      show ¬ ((n : Int) > 9223372036854775807)
      omega
  · exact brN (decide_eq_false (by omega)) rfl
theorem Most_ok {n : Int} {R : Option Addr → Heap → Prop} (h1 : ∀ m : Nat, n = m → 1 ≤ m → m ≤ 7 → ∀ d h', Ext h.size h h' → SysR h' d m (.w (List.replicate m 1)) → R (some ⟨d, 0, none⟩) h') (h2 : ¬ (1 ≤ n ∧ n ≤ 7) → ∀ h', Ext h.size h h' → R none h') : C_quorum_Most n h R := by
  refine A_quorum_Most ?_
  unfold S_quorum_Most
  refine nodes_ok ?_
  refine brNot (fun hb => h2 (of_decide_eq_false hb) _ (Ext.refl _ _)) fun hb => ?_
  have hb := of_decide_eq_true hb
  obtain ⟨m, rfl⟩ := Int.eq_ofNat_of_zero_le (show 0 ≤ n by omega)
  refine allocAt (cs := [.int .i64 1]) (At.start h) fun h3 b H => ?_
  refine Repeat_ok (n := m) (by omega) (by omega) (Own.full (H.get 0 rfl : Blk h3 b _ _) (sz := 1) (n := 1) rfl (by decide)).rd fun s' h4 e4 A' => ?_
  refine Weighted_ok A' (by rw [List.length_replicate]; omega) (fun _ d h5 e5 S => ?_) fun hn => ?_
  · rw [List.length_replicate] at S
    exact h1 m rfl (by omega) (by omega) d h5 (tr H.ext (tr e4 e5)) S
  · rw [List.length_replicate] at hn
    exact absurd (most_okq (by omega) (by omega)) hn
end
end Go.Proofs.Ytegbnmaglkpkjaa
