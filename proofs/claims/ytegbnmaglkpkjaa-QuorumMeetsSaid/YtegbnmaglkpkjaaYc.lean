/-
  Layer 36 (quorum): what a system is in the heap, and the contracts of its rules and calls.
-/
import Derived.Test.YtegbnmaglkpkjaaYb
import Derived.Test.YtegbnmaglkpkjaaRg
namespace Go.Proofs.Ytegbnmaglkpkjaa
open Go

def eN : Enc Int 1 := ⟨fun a => [.int .i64 a], fun _ => rfl, by decide, fun x u hu => by
  simp only [List.mem_cons, List.not_mem_nil, or_false] at hu
  subst hu; rfl⟩
def eS : Enc Nat 1 := ⟨fun a => [.int .u64 (a : Int)], fun _ => rfl, by decide, fun x u hu => by
  simp only [List.mem_cons, List.not_mem_nil, or_false] at hu
  subst hu; rfl⟩
theorem TInt : ElemT Try.prog 51 3 1 8 := .of (by kernel_rfl)
theorem TUint : ElemT Try.prog 79 38 1 8 := .of (by kernel_rfl)
theorem brNot {b : Bool} {A B : Prop} (h1 : b = false → A) (h2 : b = true → B) : cond (!b) A B := by
  cases b
  · exact h1 rfl
  · exact h2 rfl
def ruleV : QR → Sl → Value
  | .w ws, sl => .iface 99 (.agg #[.slice sl.a sl.n sl.c, .int .i64 (tot (wt ws) ws.length)])
  | .j a b, _ => .iface 110 (.agg #[.int .u64 (a : Int), .int .u64 (b : Int)])
  | .g r c, _ => .iface 112 (.agg #[.int .i64 (r : Int), .int .i64 (c : Int)])
  | .k c, _ => .iface 104 (.int .i64 c)
def wsOf : QR → List Int
  | .w ws => ws
  | _ => []
/-- A system: how many nodes, and its rule. -/
structure SysR (h : Heap) (d n : Nat) (r : QR) : Prop where
  lt : d < h.size
  ex : ∃ sl, cellH h ⟨d, 0, none⟩ = some (.int .i64 (n : Int)) ∧ cellH h ((⟨d, 0, none⟩ : Addr).add 1) = some (ruleV r sl) ∧ RdS h 1 sl (eN.fl (wsOf r))
theorem cell_ext {h h' : Heap} {b : Nat} {o : Nat} {p : Option Nat} (he : Ext h.size h h') (hb : b < h.size) : cellH h' ⟨b, o, p⟩ = cellH h ⟨b, o, p⟩ := cellH_eq (he.2 b hb)
theorem SysR.ext {h h' : Heap} {d n : Nat} {r : QR} (S : SysR h d n r) (he : Ext h.size h h') : SysR h' d n r := by
  obtain ⟨lt, sl, h1, h2, h3⟩ := S
  exact ⟨Nat.lt_of_lt_of_le lt he.1, sl, (cell_ext he lt).trans h1, (cell_ext he lt).trans h2, h3.ext' he⟩
theorem inv_w (v : Value) : mthW Try.prog (.iface 99 v) "kissinggate/quorum.holds" = some (135, v) := by kernel_rfl
theorem inv_j (v : Value) : mthW Try.prog (.iface 110 v) "kissinggate/quorum.holds" = some (138, v) := by kernel_rfl
theorem inv_g (v : Value) : mthW Try.prog (.iface 112 v) "kissinggate/quorum.holds" = some (139, v) := by kernel_rfl
theorem inv_k (v : Value) : mthW Try.prog (.iface 104 v) "kissinggate/quorum.holds" = some (136, v) := by kernel_rfl
theorem ok_w : okF Try.prog 135 = true := by kernel_rfl
theorem ok_j : okF Try.prog 138 = true := by kernel_rfl
theorem ok_g : okF Try.prog 139 = true := by kernel_rfl
theorem ok_k : okF Try.prog 136 = true := by kernel_rfl
theorem inv_ok {x : Value} {m : String} {args : List Value} {h : Heap} {ss : List Sh} {R : TH (Heap → Prop) ss} {g : FuncId} {rv : Value} (he : mthW Try.prog x m = some (g, rv)) (hg : okF Try.prog g = true) (hc : CallR Try.prog g (rv :: args) h ss R) : Invk Try.prog x m args h ss R := by
  unfold Invk
  rw [he]
  exact ⟨hg, hc⟩
theorem all_ok {n : Nat} (hn : n ≤ 7) {h : Heap} {R : Int → Heap → Prop} (hR : R ((2 ^ n - 1 : Nat) : Int) h) : C_quorum_all (n : Int) h R := by
  refine A_quorum_all ?_
  unfold S_quorum_all
  have := all_eq ⟨n, by omega⟩
  simp only at this
  rw [this]
  refine nneg ?_ hR
  rw [wu64 (by omega) (by omega)]; omega
theorem nodes_ok {n : Int} {h : Heap} {R : Bool → Heap → Prop} (hR : R (decide (1 ≤ n ∧ n ≤ 7)) h) : C_quorum_nodes n h R := by
  refine A_quorum_nodes ?_
  unfold S_quorum_nodes
  refine brD (fun h1 => ?_) fun h1 => ?_
  · by_cases h2 : n ≤ 7
    · rw [decide_eq_true h2]; rw [decide_eq_true ⟨h1, h2⟩] at hR; exact hR
    · rw [decide_eq_false h2]; rw [decide_eq_false fun x => h2 x.2] at hR; exact hR
  · rw [decide_eq_false fun x => h1 x.1] at hR; exact hR
/-! ## The rules -/
section
variable {h : Heap} {m : Nat}
theorem csm_bd {f : Nat → Int} {m : Nat} {c : Int} (hf : ∀ i, 0 ≤ f i ∧ f i ≤ c) : ∀ n : Nat, 0 ≤ csm f m n ∧ csm f m n ≤ c * n := by
  intro n
  induction n with
  | zero => exact ⟨Int.le_refl _, by simp [csm]⟩
  | succ n ih =>
    have := hf n
    have e : c * ((n + 1 : Nat) : Int) = c * n + c := by rw [Int.natCast_succ, Int.mul_add, Int.mul_one]
    rw [e]
    show 0 ≤ csm f m n + (if m.testBit n = true then f n else 0) ∧ csm f m n + (if m.testBit n = true then f n else 0) ≤ _
    split <;> omega
theorem wt_bd {ws : List Int} (h : ∀ x ∈ ws, 0 ≤ x ∧ x ≤ 64) (i : Nat) : 0 ≤ wt ws i ∧ wt ws i ≤ 64 := by
  unfold wt
  by_cases hi : i < ws.length
  · rw [List.getElem?_eq_getElem hi]; exact h _ (List.getElem_mem hi)
  · rw [List.getElem?_eq_none (by omega)]; decide
theorem wt_get {ws : List Int} {i : Nat} (hi : i < ws.length) : wt ws i = ws[i] := by unfold wt; rw [List.getElem?_eq_getElem hi]; rfl
theorem tot_bd {f : Nat → Int} {c : Int} (hf : ∀ i, 0 ≤ f i ∧ f i ≤ c) : ∀ n : Nat, 0 ≤ tot f n ∧ tot f n ≤ c * n := by
  intro n
  induction n with
  | zero => exact ⟨Int.le_refl _, by simp [tot]⟩
  | succ n ih =>
    have := hf n
    have e : c * ((n + 1 : Nat) : Int) = c * n + c := by rw [Int.natCast_succ, Int.mul_add, Int.mul_one]
    rw [e]
    show 0 ≤ tot f n + f n ∧ tot f n + f n ≤ _
    omega
theorem wh_ok {ws : List Int} {sl : Sl} (A : RdS h 1 sl (eN.fl ws)) (h7 : ws.length ≤ 7) (hw : ∀ x ∈ ws, 0 ≤ x ∧ x ≤ 64) (hm : m < 128) {R : Bool → Heap → Prop} (hR : ∀ h', Ext h.size h h' → R (QR.q (.w ws) m) h') : C_quorum_weighted_holds (sl, tot (wt ws) ws.length, ()) (m : Int) h R := by
  refine A_quorum_weighted_holds ?_
  unfold S_quorum_weighted_holds
  have hn := rdn A
  have H := At.start h
  repeat (first | with_reducible refine nn ?_ | with_reducible refine let_ ?_ | with_reducible refine brSome ?_ | with_reducible refine brF ?_ | with_reducible refine brT ?_ | ((with_reducible apply ldAt H 0); exact rfl; exact rfl) | ((with_reducible apply ldAt0 H 0); exact rfl; exact rfl) | ((with_reducible apply ldAt H 1); exact rfl; exact rfl) | ((with_reducible apply ldAt0 H 1); exact rfl; exact rfl) | ((with_reducible apply ldR (H.arg A)); assumption; (case hk => assumption); exact rfl) | ((with_reducible apply ldR0 (H.arg A)); assumption; (case hk => assumption); exact rfl) | ((with_reducible apply stAt H 0); exact rfl; exact rfl; intro h H) | ((with_reducible apply stAt0 H 0); exact rfl; exact rfl; intro h H) | ((with_reducible apply stAt H 1); exact rfl; exact rfl; intro h H) | ((with_reducible apply stAt0 H 1); exact rfl; exact rfl; intro h H) | ((with_reducible apply allocAt H); intro h b H) | ((with_reducible refine ⟨?_, ?_⟩); first | ((with_reducible apply ldAt H 0); exact rfl; exact rfl; exact rfl) | ((with_reducible apply ldAt0 H 0); exact rfl; exact rfl; exact rfl) | ((with_reducible apply ldAt H 1); exact rfl; exact rfl; exact rfl) | ((with_reducible apply ldAt0 H 1); exact rfl; exact rfl; exact rfl)))
  refine loop2 (s1 := .one (.int .i64)) (s2 := .one (.int .i64)) (fun (s x : Int) h1 => ∃ j : Nat, x = j ∧ j ≤ ws.length ∧ s = csm (wt ws) m j ∧ h1 = h) (fun (_ x : Int) _ => (ws.length - x).toNat) ⟨0, rfl, Nat.zero_le _, rfl, rfl⟩ fun _ (s x : Int) h1 hI => ?_
  obtain ⟨j, rfl, hj, rfl, rfl⟩ := hI
  have hb := csm_bd (m := m) (wt_bd hw) j
  refine brD (fun hc => ?_) fun hc => ?_
  · have hc : (j : Int) < (sl.n : Int) := hc
    have hj2 : j < ws.length := by omega
    have hx := hw _ (List.getElem_mem hj2)
    refine ixR (H.arg A) j rfl hj2 fun e he => ?_
    refine ldR0 (H.arg A) he hj2 ws[j] rfl (nneg (by rw [wu64 (by omega) (by omega)]; omega) ?_)
    have e1 := bit_is ⟨m, hm⟩ ⟨j, by omega⟩
    simp only at e1
    rw [e1]
    rw [w64 (n := (j : Int) + 1) (by omega) (by omega)]
    refine brB (fun hbt => let_ ?_) fun hbt => ?_
    · rw [w64 (by omega) (by omega)]
      refine ⟨⟨j + 1, by omega, by omega, ?_, rfl⟩, by omega⟩
      show _ = csm (wt ws) m j + (if m.testBit j = true then wt ws j else 0)
      rw [if_pos hbt, wt_get hj2]
    · refine ⟨⟨j + 1, by omega, by omega, ?_, rfl⟩, by omega⟩
      show _ = csm (wt ws) m j + (if m.testBit j = true then wt ws j else 0)
      rw [if_neg (by rw [hbt]; decide), Int.add_zero]
  · have hc : ¬ (j : Int) < (sl.n : Int) := hc
    obtain rfl : j = ws.length := by omega
    repeat (first | with_reducible refine nn ?_ | with_reducible refine let_ ?_ | with_reducible refine brSome ?_ | with_reducible refine brF ?_ | with_reducible refine brT ?_ | ((with_reducible apply ldAt H 0); exact rfl; exact rfl) | ((with_reducible apply ldAt0 H 0); exact rfl; exact rfl) | ((with_reducible apply ldAt H 1); exact rfl; exact rfl) | ((with_reducible apply ldAt0 H 1); exact rfl; exact rfl) | ((with_reducible apply ldR (H.arg A)); assumption; (case hk => assumption); exact rfl) | ((with_reducible apply ldR0 (H.arg A)); assumption; (case hk => assumption); exact rfl) | ((with_reducible apply stAt H 0); exact rfl; exact rfl; intro h H) | ((with_reducible apply stAt0 H 0); exact rfl; exact rfl; intro h H) | ((with_reducible apply stAt H 1); exact rfl; exact rfl; intro h H) | ((with_reducible apply stAt0 H 1); exact rfl; exact rfl; intro h H) | ((with_reducible apply allocAt H); intro h b H) | ((with_reducible refine ⟨?_, ?_⟩); first | ((with_reducible apply ldAt H 0); exact rfl; exact rfl; exact rfl) | ((with_reducible apply ldAt0 H 0); exact rfl; exact rfl; exact rfl) | ((with_reducible apply ldAt H 1); exact rfl; exact rfl; exact rfl) | ((with_reducible apply ldAt0 H 1); exact rfl; exact rfl; exact rfl)))
    rw [w64 (by omega) (by omega)]
    exact hR _ H.ext
theorem kh_ok {c : Int} (hm : m < 128) {R : Bool → Heap → Prop} (hR : ∀ h', Ext h.size h h' → R (QR.q (.k c) m) h') : C_quorum_atLeast_holds c (m : Int) h R := by
  refine A_quorum_atLeast_holds ?_
  unfold S_quorum_atLeast_holds
  exact pop_ok hm (hR _ (Ext.refl _ _))
theorem lh_ok {l : Nat} (hm : m < 128) (hl : l < 128) {R : Bool → Heap → Prop} (hR : R (halfB l m) h) : C_quorum_list_holds (l : Int) (m : Int) h R := by
  refine A_quorum_list_holds ?_
  unfold S_quorum_list_holds
  have e := and_sets ⟨m, hm⟩ ⟨l, hl⟩
  simp only at e
  rw [e]
  have h1 : m &&& l < 128 := by
    have := Nat.and_lt_two_pow m (show l < 2 ^ 7 from hl)
    exact this
  have b1 := csm_le7 ⟨m &&& l, h1⟩
  simp only at b1
  refine pop_ok h1 (pop_ok hl ?_)
  rw [w64 (by omega) (by omega)]
  exact hR
theorem jh_ok {x y : Nat} (hm : m < 128) (hx : x < 128) (hy : y < 128) {R : Bool → Heap → Prop} (hR : ∀ h', Ext h.size h h' → R (QR.q (.j x y) m) h') : C_quorum_joint_holds ((x : Int), (y : Int), ()) (m : Int) h R := by
  refine A_quorum_joint_holds ?_
  unfold S_quorum_joint_holds
  have H := At.start h
  repeat (first | with_reducible refine nn ?_ | with_reducible refine let_ ?_ | with_reducible refine brSome ?_ | with_reducible refine brF ?_ | with_reducible refine brT ?_ | ((with_reducible apply ldAt H 0); exact rfl; exact rfl) | ((with_reducible apply ldAt0 H 0); exact rfl; exact rfl) | ((with_reducible apply ldAt H 1); exact rfl; exact rfl) | ((with_reducible apply ldAt0 H 1); exact rfl; exact rfl) | ((with_reducible apply stAt H 0); exact rfl; exact rfl; intro h H) | ((with_reducible apply stAt0 H 0); exact rfl; exact rfl; intro h H) | ((with_reducible apply stAt H 1); exact rfl; exact rfl; intro h H) | ((with_reducible apply stAt0 H 1); exact rfl; exact rfl; intro h H) | ((with_reducible apply allocAt H); intro h b H) | ((with_reducible refine ⟨?_, ?_⟩); first | ((with_reducible apply ldAt H 0); exact rfl; exact rfl; exact rfl) | ((with_reducible apply ldAt0 H 0); exact rfl; exact rfl; exact rfl) | ((with_reducible apply ldAt H 1); exact rfl; exact rfl; exact rfl) | ((with_reducible apply ldAt0 H 1); exact rfl; exact rfl; exact rfl)))
  refine lh_ok hm hx ?_
  have hR : R (halfB x m && halfB y m) h := hR _ H.ext
  refine brB (fun hc => ?_) fun hc => ?_
  · repeat (first | with_reducible refine nn ?_ | with_reducible refine let_ ?_ | with_reducible refine brSome ?_ | with_reducible refine brF ?_ | with_reducible refine brT ?_ | ((with_reducible apply ldAt H 0); exact rfl; exact rfl) | ((with_reducible apply ldAt0 H 0); exact rfl; exact rfl) | ((with_reducible apply ldAt H 1); exact rfl; exact rfl) | ((with_reducible apply ldAt0 H 1); exact rfl; exact rfl) | ((with_reducible apply stAt H 0); exact rfl; exact rfl; intro h H) | ((with_reducible apply stAt0 H 0); exact rfl; exact rfl; intro h H) | ((with_reducible apply stAt H 1); exact rfl; exact rfl; intro h H) | ((with_reducible apply stAt0 H 1); exact rfl; exact rfl; intro h H) | ((with_reducible apply allocAt H); intro h b H) | ((with_reducible refine ⟨?_, ?_⟩); first | ((with_reducible apply ldAt H 0); exact rfl; exact rfl; exact rfl) | ((with_reducible apply ldAt0 H 0); exact rfl; exact rfl; exact rfl) | ((with_reducible apply ldAt H 1); exact rfl; exact rfl; exact rfl) | ((with_reducible apply ldAt0 H 1); exact rfl; exact rfl; exact rfl)))
    refine lh_ok hm hy ?_
    rw [hc] at hR
    exact hR
  · rw [hc] at hR
    exact hR
theorem grid_n : ∀ r c : Fin 8, 0 < r.val → 0 < c.val → r.val * c.val ≤ 7 → ∀ i : Fin 8, i.val < r.val → i.val * c.val + c.val ≤ 7 := by decide +kernel
theorem part_is : ∀ (c : Fin 8) (o : Fin 8) (m : Fin 128), o.val + c.val ≤ 7 → bitV .and .u64 (shiftV .shr .u64 ((m.val : Nat) : Int) (IntKind.u64.wrap ((o.val : Nat) : Int))) ((2 ^ c.val - 1 : Nat) : Int) = ((m.val / 2 ^ o.val % 2 ^ c.val : Nat) : Int) := by decide +kernel
def gAll (cols m j : Nat) : Bool := (List.range j).all fun i => decide (partG cols m i ≠ 0)
def gAny (cols m j : Nat) : Bool := (List.range j).any fun i => decide (partG cols m i = 2 ^ cols - 1)
theorem gAll_succ (cols m j : Nat) : gAll cols m (j + 1) = (gAll cols m j && decide (partG cols m j ≠ 0)) := by unfold gAll; rw [List.range_succ, List.all_append]; simp
theorem gAny_succ (cols m j : Nat) : gAny cols m (j + 1) = (gAny cols m j || decide (partG cols m j = 2 ^ cols - 1)) := by unfold gAny; rw [List.range_succ, List.any_append]; simp
theorem gAll_le {cols m j r : Nat} (hj : j ≤ r) (h : gAll cols m j = false) : gAll cols m r = false := by
  induction r with
  | zero => obtain rfl : j = 0 := by omega
            exact h
  | succ r ih =>
    rcases Nat.lt_or_ge r j with h1 | h1
    · obtain rfl : j = r + 1 := by omega
      exact h
    · rw [gAll_succ, ih h1]; rfl
theorem gh_ok {r c : Nat} (hm : m < 128) (hr : 1 ≤ r) (hc : 1 ≤ c) (h7 : r * c ≤ 7) {R : Bool → Heap → Prop} (hR : ∀ h', Ext h.size h h' → R (QR.q (.g r c) m) h') : C_quorum_grid_holds ((r : Int), (c : Int), ()) (m : Int) h R := by
  have r7 : r ≤ 7 := Nat.le_trans (Nat.le_mul_of_pos_right r hc) h7
  have c7 : c ≤ 7 := Nat.le_trans (Nat.le_mul_of_pos_left c hr) h7
  have hq : QR.q (.g r c) m = (gAll c m r && gAny c m r) := rfl
  rw [hq] at hR
  refine A_quorum_grid_holds ?_
  unfold S_quorum_grid_holds
  have H := At.start h
  repeat (first | with_reducible refine nn ?_ | with_reducible refine let_ ?_ | with_reducible refine brSome ?_ | with_reducible refine brF ?_ | with_reducible refine brT ?_ | ((with_reducible apply ldAt H 0); exact rfl; exact rfl) | ((with_reducible apply ldAt0 H 0); exact rfl; exact rfl) | ((with_reducible apply ldAt H 1); exact rfl; exact rfl) | ((with_reducible apply ldAt0 H 1); exact rfl; exact rfl) | ((with_reducible apply stAt H 0); exact rfl; exact rfl; intro h H) | ((with_reducible apply stAt0 H 0); exact rfl; exact rfl; intro h H) | ((with_reducible apply stAt H 1); exact rfl; exact rfl; intro h H) | ((with_reducible apply stAt0 H 1); exact rfl; exact rfl; intro h H) | ((with_reducible apply allocAt H); intro h b H) | ((with_reducible refine ⟨?_, ?_⟩); first | ((with_reducible apply ldAt H 0); exact rfl; exact rfl; exact rfl) | ((with_reducible apply ldAt0 H 0); exact rfl; exact rfl; exact rfl) | ((with_reducible apply ldAt H 1); exact rfl; exact rfl; exact rfl) | ((with_reducible apply ldAt0 H 1); exact rfl; exact rfl; exact rfl)))
  refine nneg (by show (0 : Int) ≤ IntKind.u64.wrap (c : Int); rw [wu64 (by omega) (by omega)]; omega) ?_
  have e0 := all_eq ⟨c, by omega⟩
  simp only at e0
  refine let_ ?_
  rw [e0]
  repeat (first | with_reducible refine nn ?_ | with_reducible refine let_ ?_ | with_reducible refine brSome ?_ | with_reducible refine brF ?_ | with_reducible refine brT ?_ | ((with_reducible apply ldAt H 0); exact rfl; exact rfl) | ((with_reducible apply ldAt0 H 0); exact rfl; exact rfl) | ((with_reducible apply ldAt H 1); exact rfl; exact rfl) | ((with_reducible apply ldAt0 H 1); exact rfl; exact rfl) | ((with_reducible apply stAt H 0); exact rfl; exact rfl; intro h H) | ((with_reducible apply stAt0 H 0); exact rfl; exact rfl; intro h H) | ((with_reducible apply stAt H 1); exact rfl; exact rfl; intro h H) | ((with_reducible apply stAt0 H 1); exact rfl; exact rfl; intro h H) | ((with_reducible apply allocAt H); intro h b H) | ((with_reducible refine ⟨?_, ?_⟩); first | ((with_reducible apply ldAt H 0); exact rfl; exact rfl; exact rfl) | ((with_reducible apply ldAt0 H 0); exact rfl; exact rfl; exact rfl) | ((with_reducible apply ldAt H 1); exact rfl; exact rfl; exact rfl) | ((with_reducible apply ldAt0 H 1); exact rfl; exact rfl; exact rfl)))
  refine loop2 (s1 := .one .bool) (s2 := .one (.int .i64)) (fun (f : Bool) (x : Int) h1 => ∃ j : Nat, x = j ∧ j ≤ r ∧ f = gAny c m j ∧ gAll c m j = true ∧ h1 = h) (fun (_ : Bool) (x : Int) _ => (r - x).toNat) ⟨0, rfl, Nat.zero_le _, rfl, rfl, rfl⟩ fun _ (f : Bool) (x : Int) h1 hI => ?_
  obtain ⟨j, rfl, hj, rfl, hall, rfl⟩ := hI
  refine brD (fun hc1 => ?_) fun hc1 => ?_
  · have hj2 : j < r := by omega
    repeat (first | with_reducible refine nn ?_ | with_reducible refine let_ ?_ | with_reducible refine brSome ?_ | with_reducible refine brF ?_ | with_reducible refine brT ?_ | ((with_reducible apply ldAt H 0); exact rfl; exact rfl) | ((with_reducible apply ldAt0 H 0); exact rfl; exact rfl) | ((with_reducible apply ldAt H 1); exact rfl; exact rfl) | ((with_reducible apply ldAt0 H 1); exact rfl; exact rfl) | ((with_reducible apply stAt H 0); exact rfl; exact rfl; intro h H) | ((with_reducible apply stAt0 H 0); exact rfl; exact rfl; intro h H) | ((with_reducible apply stAt H 1); exact rfl; exact rfl; intro h H) | ((with_reducible apply stAt0 H 1); exact rfl; exact rfl; intro h H) | ((with_reducible apply allocAt H); intro h b H) | ((with_reducible refine ⟨?_, ?_⟩); first | ((with_reducible apply ldAt H 0); exact rfl; exact rfl; exact rfl) | ((with_reducible apply ldAt0 H 0); exact rfl; exact rfl; exact rfl) | ((with_reducible apply ldAt H 1); exact rfl; exact rfl; exact rfl) | ((with_reducible apply ldAt0 H 1); exact rfl; exact rfl; exact rfl)))
    have hb := grid_n ⟨r, by omega⟩ ⟨c, by omega⟩ hr hc h7 ⟨j, by omega⟩ hj2
    simp only at hb
    have e1 : IntKind.i64.wrap ((j : Int) * (c : Int)) = ((j * c : Nat) : Int) := by
      rw [← Int.natCast_mul, w64 (by omega) (by omega)]
    rw [e1]
    refine nneg (by rw [wu64 (by omega) (by omega)]; omega) (let_ ?_)
    have e2 := part_is ⟨c, by omega⟩ ⟨j * c, by omega⟩ ⟨m, hm⟩ hb
    simp only at e2
    rw [e2]
    have e3 : m / 2 ^ (j * c) % 2 ^ c = partG c m j := rfl
    rw [e3, w64 (n := (j : Int) + 1) (by omega) (by omega)]
    refine br beq_iff_eq (fun hz => ?_) fun hz => ?_
    · have : gAll c m (j + 1) = false := by rw [gAll_succ, hall, decide_eq_false (by omega)]; rfl
      rw [gAll_le (by omega) this] at hR
      exact hR _ H.ext
    · have ha : gAll c m (j + 1) = true := by rw [gAll_succ, hall, decide_eq_true (by omega)]; rfl
      refine brB (fun hf => ?_) fun hf => let_ ?_
      · exact ⟨⟨j + 1, by omega, by omega, by rw [gAny_succ, hf]; rfl, ha, rfl⟩, by omega⟩
      · refine ⟨⟨j + 1, by omega, by omega, ?_, ha, rfl⟩, by omega⟩
        rw [gAny_succ, hf, Bool.false_or, Bool.eq_iff_iff, beq_iff_eq, decide_eq_true_iff]
        omega
  · obtain rfl : j = r := by omega
    rw [hall, Bool.true_and] at hR
    exact hR _ H.ext
theorem holds_ok {d n : Nat} {r : QR} {sl : Sl} (A : RdS h 1 sl (eN.fl (wsOf r))) (hok : r.ok n) (hm : m < 128) {R : Bool → Heap → Prop} (hR : ∀ h', Ext h.size h h' → R (r.q m) h') : Invk Try.prog (ruleV r sl) "kissinggate/quorum.holds" [.int .u64 (m : Int)] h [.one .bool] R := by
  cases r with
  | w ws => unfold ruleV Invk; rw [inv_w]; exact ⟨ok_w, wh_ok (ws := ws) A (by have h1 : ws.length = n := hok.1; have h2 : n ≤ 7 := hok.2.1; omega) hok.2.2.1 hm hR⟩
  | j a b => unfold ruleV Invk; rw [inv_j]; exact ⟨ok_j, jh_ok hm (lt128 hok.1 hok.2.1) (lt128 hok.1 hok.2.2.1) hR⟩
  | g r c => unfold ruleV Invk; rw [inv_g]; exact ⟨ok_g, gh_ok hm hok.1 hok.2.1 (by rw [← hok.2.2.1]; exact hok.2.2.2) hR⟩
  | k c => unfold ruleV Invk; rw [inv_k]; exact ⟨ok_k, kh_ok hm hR⟩
end
end Go.Proofs.Ytegbnmaglkpkjaa
