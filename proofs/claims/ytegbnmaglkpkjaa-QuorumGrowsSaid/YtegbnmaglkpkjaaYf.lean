/-
  Layer 36 (quorum): the document's systems, and what 'tells' asks.
-/
import Derived.Test.YtegbnmaglkpkjaaYe
import Derived.Test.YtegbnmaglkpkjaaSYR
import Derived.Test.YtegbnmaglkpkjaaSYL
namespace Go.Proofs.Ytegbnmaglkpkjaa
open Go

theorem shl1_eq : ∀ n : Fin 8, shiftV .shl .u64 1 (IntKind.u64.wrap ((n.val : Nat) : Int)) = ((2 ^ n.val : Nat) : Int) := by decide +kernel
section
variable {h : Heap}
theorem in_ok {x i : Nat} (hx : x < 18446744073709551616) (hi : i ≤ 7) {R : Bool → Heap → Prop} (hR : R (x.testBit i) h) : C_ref36_In (x : Int) (i : Int) h R := by
  refine A_ref36_In ?_
  unfold S_ref36_In
  have e := shl1_eq ⟨i, by omega⟩
  simp only at e
  have hp := Nat.two_pow_pos i
  rw [e]
  refine nneg (by rw [wu64 (by omega) (by omega)]; omega) (nz (by omega) (nz (by decide) ?_))
  rw [quo_u64 (by omega) (by omega) (by omega), ← Int.natCast_ediv, rem_nonneg (Int.natCast_nonneg _)]
  have e2 : (((x / 2 ^ i : Nat) : Int) % 2 == 1) = x.testBit i := by
    rw [Nat.testBit_eq_decide_div_mod_eq, Bool.eq_iff_iff, beq_iff_eq, decide_eq_true_iff]
    omega
  rw [e2]
  exact hR
theorem size_ok {x n : Nat} (hx : x < 18446744073709551616) (hn : n ≤ 7) {R : Int → Heap → Prop} (hR : R (csm one x n) h) : C_ref36_Size (x : Int) (n : Int) h R := by
  refine A_ref36_Size ?_
  unfold S_ref36_Size
  refine loop2 (s1 := .one (.int .i64)) (s2 := .one (.int .i64)) (fun (s y : Int) g => ∃ j : Nat, y = j ∧ j ≤ n ∧ s = csm one x j ∧ g = h) (fun (_ y : Int) _ => (n - y).toNat) ⟨0, rfl, Nat.zero_le _, rfl, rfl⟩ fun _ (s y : Int) g hI => ?_
  obtain ⟨j, rfl, hj, rfl, rfl⟩ := hI
  have hb := csm_bd (f := one) (m := x) (c := 1) (fun i => by unfold one; omega) j
  refine brD (fun hc => ?_) fun hc => ?_
  · refine in_ok hx (by omega) ?_
    rw [w64 (n := (j : Int) + 1) (by omega) (by omega), w64 (n := csm one x j + 1) (by omega) (by omega)]
    refine brB (fun ht => let_ (let_ ⟨⟨j + 1, by omega, by omega, ?_, rfl⟩, by omega⟩)) fun ht => let_ ⟨⟨j + 1, by omega, by omega, ?_, rfl⟩, by omega⟩
    · show _ = csm one x j + (if x.testBit j = true then one j else 0)
      rw [if_pos ht]; rfl
    · show _ = csm one x j + (if x.testBit j = true then one j else 0)
      rw [if_neg (by rw [ht]; decide), Int.add_zero]
  · obtain rfl : j = n := by omega
    exact hR
abbrev KV : Type := KL [.int .i64, .int .i64, .int .i64, .int .i64, .sl, .int .u64, .int .u64]
/-- What the document's kind of system answers. -/
structure KQ (h : Heap) (k : KV) (n : Nat) (q : Nat → Bool) : Prop where
  n7 : n ≤ 7
  n1 : k.2.1 = (n : Int)
  is_ : ∀ h1, Ext h.size h h1 → ∀ x : Nat, x < 18446744073709551616 → ∀ R : Bool → Heap → Prop, (∀ h', Ext h1.size h1 h' → R (q (x % 2 ^ n)) h') → C_ref36_Kind_Is k (x : Int) h1 R
theorem KQ.ext {k : KV} {n : Nat} {q : Nat → Bool} {h' : Heap} (K : KQ h k n q) (e : Ext h.size h h') : KQ h' k n q := ⟨K.n7, K.n1, fun h1 e1 => K.is_ h1 (tr e e1)⟩
theorem KQ.congr {k : KV} {n : Nat} {q q' : Nat → Bool} (K : KQ h k n q) (e : ∀ m, m < 2 ^ n → q m = q' m) : KQ h k n q' := ⟨K.n7, K.n1, fun h1 e1 x hx R hR => K.is_ h1 e1 x hx R (by rw [e _ (Nat.mod_lt _ (Nat.two_pow_pos n))]; exact hR)⟩
variable {rr kk aa bb : Int} {ss : Sl}
theorem kq_k {n : Nat} {c : Int} (hn : n ≤ 7) : KQ h (3, (n : Int), rr, c, ss, aa, bb, ()) n (QR.q (.k c)) := by
  refine ⟨hn, rfl, fun h1 e1 x hx R hR => ?_⟩
  refine A_ref36_Kind_Is ?_
  unfold S_ref36_Kind_Is
  dsimp only
  have H := At.start h1
  repeat (first | with_reducible refine nn ?_ | with_reducible refine let_ ?_ | with_reducible refine brSome ?_ | with_reducible refine brF ?_ | with_reducible refine brT ?_ | ((with_reducible apply ldAt H 0); exact rfl; exact rfl) | ((with_reducible apply ldAt0 H 0); exact rfl; exact rfl) | ((with_reducible apply stAt H 0); exact rfl; exact rfl; intro h H) | ((with_reducible apply stAt0 H 0); exact rfl; exact rfl; intro h H) | ((with_reducible apply allocAt H); intro h b H) | ((with_reducible refine ⟨?_, ?_⟩); first | ((with_reducible apply ldAt H 0); exact rfl; exact rfl; exact rfl) | ((with_reducible apply ldAt0 H 0); exact rfl; exact rfl; exact rfl)))
  refine brN (by decide) ?_
  repeat (first | with_reducible refine nn ?_ | with_reducible refine let_ ?_ | with_reducible refine brSome ?_ | with_reducible refine brF ?_ | with_reducible refine brT ?_ | ((with_reducible apply ldAt H 0); exact rfl; exact rfl) | ((with_reducible apply ldAt0 H 0); exact rfl; exact rfl) | ((with_reducible apply stAt H 0); exact rfl; exact rfl; intro h H) | ((with_reducible apply stAt0 H 0); exact rfl; exact rfl; intro h H) | ((with_reducible apply allocAt H); intro h b H) | ((with_reducible refine ⟨?_, ?_⟩); first | ((with_reducible apply ldAt H 0); exact rfl; exact rfl; exact rfl) | ((with_reducible apply ldAt0 H 0); exact rfl; exact rfl; exact rfl)))
  refine brN (by decide) ?_
  repeat (first | with_reducible refine nn ?_ | with_reducible refine let_ ?_ | with_reducible refine brSome ?_ | with_reducible refine brF ?_ | with_reducible refine brT ?_ | ((with_reducible apply ldAt H 0); exact rfl; exact rfl) | ((with_reducible apply ldAt0 H 0); exact rfl; exact rfl) | ((with_reducible apply stAt H 0); exact rfl; exact rfl; intro h H) | ((with_reducible apply stAt0 H 0); exact rfl; exact rfl; intro h H) | ((with_reducible apply allocAt H); intro h b H) | ((with_reducible refine ⟨?_, ?_⟩); first | ((with_reducible apply ldAt H 0); exact rfl; exact rfl; exact rfl) | ((with_reducible apply ldAt0 H 0); exact rfl; exact rfl; exact rfl)))
  refine brY (by decide) ?_
  repeat (first | with_reducible refine nn ?_ | with_reducible refine let_ ?_ | with_reducible refine brSome ?_ | with_reducible refine brF ?_ | with_reducible refine brT ?_ | ((with_reducible apply ldAt H 0); exact rfl; exact rfl) | ((with_reducible apply ldAt0 H 0); exact rfl; exact rfl) | ((with_reducible apply stAt H 0); exact rfl; exact rfl; intro h H) | ((with_reducible apply stAt0 H 0); exact rfl; exact rfl; intro h H) | ((with_reducible apply allocAt H); intro h b H) | ((with_reducible refine ⟨?_, ?_⟩); first | ((with_reducible apply ldAt H 0); exact rfl; exact rfl; exact rfl) | ((with_reducible apply ldAt0 H 0); exact rfl; exact rfl; exact rfl)))
  refine size_ok hx hn ?_
  repeat (first | with_reducible refine nn ?_ | with_reducible refine let_ ?_ | with_reducible refine brSome ?_ | with_reducible refine brF ?_ | with_reducible refine brT ?_ | ((with_reducible apply ldAt H 0); exact rfl; exact rfl) | ((with_reducible apply ldAt0 H 0); exact rfl; exact rfl) | ((with_reducible apply stAt H 0); exact rfl; exact rfl; intro h H) | ((with_reducible apply stAt0 H 0); exact rfl; exact rfl; intro h H) | ((with_reducible apply allocAt H); intro h b H) | ((with_reducible refine ⟨?_, ?_⟩); first | ((with_reducible apply ldAt H 0); exact rfl; exact rfl; exact rfl) | ((with_reducible apply ldAt0 H 0); exact rfl; exact rfl; exact rfl)))
  have hR : R (decide (csm one (x % 2 ^ n) 7 ≥ c)) h := hR _ H.ext
  rw [csm_one_mod hn] at hR
  exact hR
theorem kq_w {n : Nat} {ws : List Int} (A : RdS h 1 ss (eN.fl ws)) (hok : (QR.w ws).ok n) : KQ h (0, (n : Int), rr, kk, ss, aa, bb, ()) n (QR.q (.w ws)) := by
  obtain ⟨rfl, hn, hw, _⟩ := hok
  refine ⟨hn, rfl, fun h1 e1 x hx R hR => ?_⟩
  refine A_ref36_Kind_Is ?_
  unfold S_ref36_Kind_Is
  dsimp only
  have A := A.ext' e1
  have hl := rdn A
  have H := At.start h1
  repeat (first | with_reducible refine nn ?_ | with_reducible refine let_ ?_ | with_reducible refine brSome ?_ | with_reducible refine brF ?_ | with_reducible refine brT ?_ | ((with_reducible apply ldAt H 0); exact rfl; exact rfl) | ((with_reducible apply ldAt0 H 0); exact rfl; exact rfl) | ((with_reducible apply stAt H 0); exact rfl; exact rfl; intro h H) | ((with_reducible apply stAt0 H 0); exact rfl; exact rfl; intro h H) | ((with_reducible apply allocAt H); intro h b H) | ((with_reducible refine ⟨?_, ?_⟩); first | ((with_reducible apply ldAt H 0); exact rfl; exact rfl; exact rfl) | ((with_reducible apply ldAt0 H 0); exact rfl; exact rfl; exact rfl)))
  refine brY (by decide) ?_
  repeat (first | with_reducible refine nn ?_ | with_reducible refine let_ ?_ | with_reducible refine brSome ?_ | with_reducible refine brF ?_ | with_reducible refine brT ?_ | ((with_reducible apply ldAt H 0); exact rfl; exact rfl) | ((with_reducible apply ldAt0 H 0); exact rfl; exact rfl) | ((with_reducible apply stAt H 0); exact rfl; exact rfl; intro h H) | ((with_reducible apply stAt0 H 0); exact rfl; exact rfl; intro h H) | ((with_reducible apply allocAt H); intro h b H) | ((with_reducible refine ⟨?_, ?_⟩); first | ((with_reducible apply ldAt H 0); exact rfl; exact rfl; exact rfl) | ((with_reducible apply ldAt0 H 0); exact rfl; exact rfl; exact rfl)))
  refine loop3 (s1 := .one (.int .i64)) (s2 := .one (.int .i64)) (s3 := .one (.int .i64)) (fun (s t y : Int) g => ∃ j : Nat, y = j ∧ j ≤ ws.length ∧ s = csm (wt ws) x j ∧ t = tot (wt ws) j ∧ g = h) (fun (_ _ y : Int) _ => (ws.length - y).toNat) ⟨0, rfl, Nat.zero_le _, rfl, rfl, rfl⟩ fun _ (s t y : Int) g hI => ?_
  obtain ⟨j, rfl, hj, rfl, rfl, rfl⟩ := hI
  have b1 := csm_bd (m := x) (wt_bd hw) j
  have b2 := tot_bd (wt_bd hw) j
  refine brD (fun hc => ?_) fun hc => ?_
  · have hc : (j : Int) < (ss.n : Int) := hc
    have hj2 : j < ws.length := by omega
    have hwj := hw _ (List.getElem_mem hj2)
    refine ixR (H.arg A) j rfl hj2 fun e he => ?_
    refine ldR0 (H.arg A) he hj2 ws[j] rfl (let_ ?_)
    refine in_ok hx (by omega) ?_
    rw [w64 (n := (j : Int) + 1) (by omega) (by omega), w64 (n := csm (wt ws) x j + ws[j]) (by omega) (by omega), w64 (n := tot (wt ws) j + ws[j]) (by omega) (by omega)]
    have e3 : tot (wt ws) j + ws[j] = tot (wt ws) (j + 1) := by
      show _ = tot (wt ws) j + wt ws j
      rw [wt_get hj2]
    refine brB (fun ht => let_ ⟨⟨j + 1, by omega, by omega, ?_, e3, rfl⟩, by omega⟩) fun ht => ⟨⟨j + 1, by omega, by omega, ?_, e3, rfl⟩, by omega⟩
    · show _ = csm (wt ws) x j + (if x.testBit j = true then wt ws j else 0)
      rw [if_pos ht, wt_get hj2]
    · show _ = csm (wt ws) x j + (if x.testBit j = true then wt ws j else 0)
      rw [if_neg (by rw [ht]; decide), Int.add_zero]
  · have hc : ¬ (j : Int) < (ss.n : Int) := hc
    obtain rfl : j = ws.length := by omega
    have hR : R (decide (2 * csm (wt ws) (x % 2 ^ ws.length) ws.length > tot (wt ws) ws.length)) _ := hR _ H.ext
    rw [csm_mod] at hR
    rw [w64 (by omega) (by omega)]
    have e4 : decide (csm (wt ws) x ws.length > tot (wt ws) ws.length - csm (wt ws) x ws.length) = decide (2 * csm (wt ws) x ws.length > tot (wt ws) ws.length) := by
      rw [Bool.eq_iff_iff, decide_eq_true_iff, decide_eq_true_iff]; omega
    rw [e4]
    exact hR
theorem and_mod2 {x a n : Nat} : (x &&& a) % 2 ^ n = x % 2 ^ n &&& a % 2 ^ n := by
  refine Nat.eq_of_testBit_eq fun i => ?_
  simp only [Nat.testBit_and, Nat.testBit_mod_two_pow]
  cases decide (i < n) <;> cases x.testBit i <;> cases a.testBit i <;> rfl
theorem halfB_mod {x a n : Nat} (hn : n ≤ 7) : halfB (a % 2 ^ n) (x % 2 ^ n) = decide (csm one (x &&& a) n > csm one a n - csm one (x &&& a) n) := by
  unfold halfB
  rw [← and_mod2, csm_one_mod hn, csm_one_mod hn, Bool.eq_iff_iff, decide_eq_true_iff, decide_eq_true_iff]
  omega
theorem kq_j {n a d : Nat} (hn : n ≤ 7) (ha : a < 18446744073709551616) (hb : d < 18446744073709551616) : KQ h (1, (n : Int), rr, kk, ss, (a : Int), (d : Int), ()) n (QR.q (.j (a % 2 ^ n) (d % 2 ^ n))) := by
  refine ⟨hn, rfl, fun h1 e1 x hx R hR => ?_⟩
  have xa : x &&& a < 18446744073709551616 := Nat.lt_of_le_of_lt Nat.and_le_left hx
  have xb : x &&& d < 18446744073709551616 := Nat.lt_of_le_of_lt Nat.and_le_left hx
  have c1 := csm_bd (f := one) (m := x &&& a) (c := 1) (fun i => by unfold one; omega) n
  have c2 := csm_bd (f := one) (m := a) (c := 1) (fun i => by unfold one; omega) n
  have c3 := csm_bd (f := one) (m := x &&& d) (c := 1) (fun i => by unfold one; omega) n
  have c4 := csm_bd (f := one) (m := d) (c := 1) (fun i => by unfold one; omega) n
  refine A_ref36_Kind_Is ?_
  unfold S_ref36_Kind_Is
  dsimp only
  have H := At.start h1
  repeat (first | with_reducible refine nn ?_ | with_reducible refine let_ ?_ | with_reducible refine brSome ?_ | with_reducible refine brF ?_ | with_reducible refine brT ?_ | ((with_reducible apply ldAt H 0); exact rfl; exact rfl) | ((with_reducible apply ldAt0 H 0); exact rfl; exact rfl) | ((with_reducible apply stAt H 0); exact rfl; exact rfl; intro h H) | ((with_reducible apply stAt0 H 0); exact rfl; exact rfl; intro h H) | ((with_reducible apply allocAt H); intro h b H) | ((with_reducible refine ⟨?_, ?_⟩); first | ((with_reducible apply ldAt H 0); exact rfl; exact rfl; exact rfl) | ((with_reducible apply ldAt0 H 0); exact rfl; exact rfl; exact rfl)))
  refine brN (by decide) ?_
  repeat (first | with_reducible refine nn ?_ | with_reducible refine let_ ?_ | with_reducible refine brSome ?_ | with_reducible refine brF ?_ | with_reducible refine brT ?_ | ((with_reducible apply ldAt H 0); exact rfl; exact rfl) | ((with_reducible apply ldAt0 H 0); exact rfl; exact rfl) | ((with_reducible apply stAt H 0); exact rfl; exact rfl; intro h H) | ((with_reducible apply stAt0 H 0); exact rfl; exact rfl; intro h H) | ((with_reducible apply allocAt H); intro h b H) | ((with_reducible refine ⟨?_, ?_⟩); first | ((with_reducible apply ldAt H 0); exact rfl; exact rfl; exact rfl) | ((with_reducible apply ldAt0 H 0); exact rfl; exact rfl; exact rfl)))
  refine brY (by decide) ?_
  have hR : R (halfB (a % 2 ^ n) (x % 2 ^ n) && halfB (d % 2 ^ n) (x % 2 ^ n)) _ := hR _ H.ext
  refine join1 (s1 := .one .bool) (fun (y : Bool) g => y = (halfB (a % 2 ^ n) (x % 2 ^ n) && halfB (d % 2 ^ n) (x % 2 ^ n)) ∧ g = h) (fun _ (y : Bool) g hJ => ?_) ?_
  · obtain ⟨rfl, rfl⟩ := hJ
    exact hR
  · repeat (first | with_reducible refine nn ?_ | with_reducible refine let_ ?_ | with_reducible refine brSome ?_ | with_reducible refine brF ?_ | with_reducible refine brT ?_ | ((with_reducible apply ldAt H 0); exact rfl; exact rfl) | ((with_reducible apply ldAt0 H 0); exact rfl; exact rfl) | ((with_reducible apply stAt H 0); exact rfl; exact rfl; intro h H) | ((with_reducible apply stAt0 H 0); exact rfl; exact rfl; intro h H) | ((with_reducible apply allocAt H); intro h b H) | ((with_reducible refine ⟨?_, ?_⟩); first | ((with_reducible apply ldAt H 0); exact rfl; exact rfl; exact rfl) | ((with_reducible apply ldAt0 H 0); exact rfl; exact rfl; exact rfl)))
    simp only [and_u64' hx ha, and_u64' hx hb]
    refine size_ok xa hn ?_
    repeat (first | with_reducible refine nn ?_ | with_reducible refine let_ ?_ | with_reducible refine brSome ?_ | with_reducible refine brF ?_ | with_reducible refine brT ?_ | ((with_reducible apply ldAt H 0); exact rfl; exact rfl) | ((with_reducible apply ldAt0 H 0); exact rfl; exact rfl) | ((with_reducible apply stAt H 0); exact rfl; exact rfl; intro h H) | ((with_reducible apply stAt0 H 0); exact rfl; exact rfl; intro h H) | ((with_reducible apply allocAt H); intro h b H) | ((with_reducible refine ⟨?_, ?_⟩); first | ((with_reducible apply ldAt H 0); exact rfl; exact rfl; exact rfl) | ((with_reducible apply ldAt0 H 0); exact rfl; exact rfl; exact rfl)))
    refine size_ok ha hn ?_
    repeat (first | with_reducible refine nn ?_ | with_reducible refine let_ ?_ | with_reducible refine brSome ?_ | with_reducible refine brF ?_ | with_reducible refine brT ?_ | ((with_reducible apply ldAt H 0); exact rfl; exact rfl) | ((with_reducible apply ldAt0 H 0); exact rfl; exact rfl) | ((with_reducible apply stAt H 0); exact rfl; exact rfl; intro h H) | ((with_reducible apply stAt0 H 0); exact rfl; exact rfl; intro h H) | ((with_reducible apply allocAt H); intro h b H) | ((with_reducible refine ⟨?_, ?_⟩); first | ((with_reducible apply ldAt H 0); exact rfl; exact rfl; exact rfl) | ((with_reducible apply ldAt0 H 0); exact rfl; exact rfl; exact rfl)))
    refine size_ok xa hn ?_
    rw [w64 (by omega) (by omega), ← halfB_mod hn]
    refine brB (fun hq => ?_) fun hq => ?_
    · repeat (first | with_reducible refine nn ?_ | with_reducible refine let_ ?_ | with_reducible refine brSome ?_ | with_reducible refine brF ?_ | with_reducible refine brT ?_ | ((with_reducible apply ldAt H 0); exact rfl; exact rfl) | ((with_reducible apply ldAt0 H 0); exact rfl; exact rfl) | ((with_reducible apply stAt H 0); exact rfl; exact rfl; intro h H) | ((with_reducible apply stAt0 H 0); exact rfl; exact rfl; intro h H) | ((with_reducible apply allocAt H); intro h b H) | ((with_reducible refine ⟨?_, ?_⟩); first | ((with_reducible apply ldAt H 0); exact rfl; exact rfl; exact rfl) | ((with_reducible apply ldAt0 H 0); exact rfl; exact rfl; exact rfl)))
      simp only [and_u64' hx hb]
      refine size_ok xb hn ?_
      repeat (first | with_reducible refine nn ?_ | with_reducible refine let_ ?_ | with_reducible refine brSome ?_ | with_reducible refine brF ?_ | with_reducible refine brT ?_ | ((with_reducible apply ldAt H 0); exact rfl; exact rfl) | ((with_reducible apply ldAt0 H 0); exact rfl; exact rfl) | ((with_reducible apply stAt H 0); exact rfl; exact rfl; intro h H) | ((with_reducible apply stAt0 H 0); exact rfl; exact rfl; intro h H) | ((with_reducible apply allocAt H); intro h b H) | ((with_reducible refine ⟨?_, ?_⟩); first | ((with_reducible apply ldAt H 0); exact rfl; exact rfl; exact rfl) | ((with_reducible apply ldAt0 H 0); exact rfl; exact rfl; exact rfl)))
      refine size_ok hb hn ?_
      repeat (first | with_reducible refine nn ?_ | with_reducible refine let_ ?_ | with_reducible refine brSome ?_ | with_reducible refine brF ?_ | with_reducible refine brT ?_ | ((with_reducible apply ldAt H 0); exact rfl; exact rfl) | ((with_reducible apply ldAt0 H 0); exact rfl; exact rfl) | ((with_reducible apply stAt H 0); exact rfl; exact rfl; intro h H) | ((with_reducible apply stAt0 H 0); exact rfl; exact rfl; intro h H) | ((with_reducible apply allocAt H); intro h b H) | ((with_reducible refine ⟨?_, ?_⟩); first | ((with_reducible apply ldAt H 0); exact rfl; exact rfl; exact rfl) | ((with_reducible apply ldAt0 H 0); exact rfl; exact rfl; exact rfl)))
      refine size_ok xb hn ?_
      rw [w64 (by omega) (by omega), ← halfB_mod hn]
      refine ⟨?_, rfl⟩
      rw [hq]; rfl
    · refine ⟨?_, rfl⟩
      rw [hq]; rfl
theorem part_cnt : ∀ c : Fin 8, ∀ p : Fin 128, p.val < 2 ^ c.val → ((csm one p.val c.val = 0 ↔ p.val = 0) ∧ (csm one p.val c.val = c.val ↔ p.val = 2 ^ c.val - 1)) := by decide +kernel
theorem kq_g {r c : Nat} (hr : 1 ≤ r) (hc : 1 ≤ c) (h7 : r * c ≤ 7) : KQ h (2, ((r * c : Nat) : Int), (r : Int), kk, ss, aa, bb, ()) (r * c) (QR.q (.g r c)) := by
  refine ⟨h7, rfl, fun h1 e1 x hx R hR => ?_⟩
  have r7 : r ≤ 7 := Nat.le_trans (Nat.le_mul_of_pos_right r hc) h7
  have c7 : c ≤ 7 := Nat.le_trans (Nat.le_mul_of_pos_left c hr) h7
  refine A_ref36_Kind_Is ?_
  unfold S_ref36_Kind_Is
  dsimp only
  have H := At.start h1
  repeat (first | with_reducible refine nn ?_ | with_reducible refine let_ ?_ | with_reducible refine brSome ?_ | with_reducible refine brF ?_ | with_reducible refine brT ?_ | ((with_reducible apply ldAt H 0); exact rfl; exact rfl) | ((with_reducible apply ldAt0 H 0); exact rfl; exact rfl) | ((with_reducible apply stAt H 0); exact rfl; exact rfl; intro h H) | ((with_reducible apply stAt0 H 0); exact rfl; exact rfl; intro h H) | ((with_reducible apply allocAt H); intro h b H) | ((with_reducible refine ⟨?_, ?_⟩); first | ((with_reducible apply ldAt H 0); exact rfl; exact rfl; exact rfl) | ((with_reducible apply ldAt0 H 0); exact rfl; exact rfl; exact rfl)))
  refine brN (by decide) ?_
  repeat (first | with_reducible refine nn ?_ | with_reducible refine let_ ?_ | with_reducible refine brSome ?_ | with_reducible refine brF ?_ | with_reducible refine brT ?_ | ((with_reducible apply ldAt H 0); exact rfl; exact rfl) | ((with_reducible apply ldAt0 H 0); exact rfl; exact rfl) | ((with_reducible apply stAt H 0); exact rfl; exact rfl; intro h H) | ((with_reducible apply stAt0 H 0); exact rfl; exact rfl; intro h H) | ((with_reducible apply allocAt H); intro h b H) | ((with_reducible refine ⟨?_, ?_⟩); first | ((with_reducible apply ldAt H 0); exact rfl; exact rfl; exact rfl) | ((with_reducible apply ldAt0 H 0); exact rfl; exact rfl; exact rfl)))
  refine brN (by decide) ?_
  repeat (first | with_reducible refine nn ?_ | with_reducible refine let_ ?_ | with_reducible refine brSome ?_ | with_reducible refine brF ?_ | with_reducible refine brT ?_ | ((with_reducible apply ldAt H 0); exact rfl; exact rfl) | ((with_reducible apply ldAt0 H 0); exact rfl; exact rfl) | ((with_reducible apply stAt H 0); exact rfl; exact rfl; intro h H) | ((with_reducible apply stAt0 H 0); exact rfl; exact rfl; intro h H) | ((with_reducible apply allocAt H); intro h b H) | ((with_reducible refine ⟨?_, ?_⟩); first | ((with_reducible apply ldAt H 0); exact rfl; exact rfl; exact rfl) | ((with_reducible apply ldAt0 H 0); exact rfl; exact rfl; exact rfl)))
  refine brN (by decide) ?_
  repeat (first | with_reducible refine nn ?_ | with_reducible refine let_ ?_ | with_reducible refine brSome ?_ | with_reducible refine brF ?_ | with_reducible refine brT ?_ | ((with_reducible apply ldAt H 0); exact rfl; exact rfl) | ((with_reducible apply ldAt0 H 0); exact rfl; exact rfl) | ((with_reducible apply stAt H 0); exact rfl; exact rfl; intro h H) | ((with_reducible apply stAt0 H 0); exact rfl; exact rfl; intro h H) | ((with_reducible apply allocAt H); intro h b H) | ((with_reducible refine ⟨?_, ?_⟩); first | ((with_reducible apply ldAt H 0); exact rfl; exact rfl; exact rfl) | ((with_reducible apply ldAt0 H 0); exact rfl; exact rfl; exact rfl)))
  have hR : ∀ b, b = (gAll c (x % 2 ^ (r * c)) r && gAny c (x % 2 ^ (r * c)) r) → R b h := fun b hb => by rw [hb]; exact hR _ H.ext
  generalize hm : x % 2 ^ (r * c) = m at hR
  refine nz (by show (r : Int) ≠ 0; omega) (let_ ?_)
  have ec : divV .quo .i64 ((r * c : Nat) : Int) (r : Int) = (c : Int) := by
    rw [quo_i64 (by omega) (by omega) (by omega), ← Int.natCast_ediv, Nat.mul_div_cancel_left c (by omega)]
  simp only [ec]
  have hpart : ∀ j, partG c m j < 2 ^ c := fun j => Nat.mod_lt _ (Nat.two_pow_pos c)
  have hp7 : ∀ j, partG c m j < 128 := fun j => Nat.lt_of_lt_of_le (hpart j) (pow128 c7)
  refine loop2 (s1 := .one .bool) (s2 := .one (.int .i64)) (fun (f : Bool) (y : Int) g => ∃ j : Nat, y = j ∧ j ≤ r ∧ f = gAny c m j ∧ gAll c m j = true ∧ g = h) (fun (_ : Bool) (y : Int) _ => (r - y).toNat) ⟨0, rfl, Nat.zero_le _, rfl, rfl, rfl⟩ fun _ (f : Bool) (y : Int) g hI => ?_
  obtain ⟨j, rfl, hj, rfl, hall, rfl⟩ := hI
  repeat (first | with_reducible refine nn ?_ | with_reducible refine let_ ?_ | with_reducible refine brSome ?_ | with_reducible refine brF ?_ | with_reducible refine brT ?_ | ((with_reducible apply ldAt H 0); exact rfl; exact rfl) | ((with_reducible apply ldAt0 H 0); exact rfl; exact rfl) | ((with_reducible apply stAt H 0); exact rfl; exact rfl; intro h H) | ((with_reducible apply stAt0 H 0); exact rfl; exact rfl; intro h H) | ((with_reducible apply allocAt H); intro h b H) | ((with_reducible refine ⟨?_, ?_⟩); first | ((with_reducible apply ldAt H 0); exact rfl; exact rfl; exact rfl) | ((with_reducible apply ldAt0 H 0); exact rfl; exact rfl; exact rfl)))
  refine brD (fun hc1 => ?_) fun hc1 => ?_
  · have hc1 : (j : Int) < (r : Int) := hc1
    have hj2 : j < r := by omega
    have hjc := grid_n ⟨r, by omega⟩ ⟨c, by omega⟩ hr hc h7 ⟨j, by omega⟩ hj2
    simp only at hjc
    have hjr : j * c + c ≤ r * c := by rw [← Nat.succ_mul]; exact Nat.mul_le_mul_right _ hj2
    have e1 : IntKind.i64.wrap ((j : Int) * (c : Int)) = ((j * c : Nat) : Int) := by
      rw [← Int.natCast_mul, w64 (by omega) (by omega)]
    refine loop2 (s1 := .one (.int .i64)) (s2 := .one (.int .i64)) (fun (s y : Int) g' => ∃ i : Nat, y = i ∧ i ≤ c ∧ s = csm one (partG c m j) i ∧ g' = g) (fun (_ y : Int) _ => (c - y).toNat) ⟨0, rfl, Nat.zero_le _, rfl, rfl⟩ fun _ (s y : Int) g' hI => ?_
    obtain ⟨i, rfl, hi, rfl, rfl⟩ := hI
    have hb := csm_bd (f := one) (m := partG c m j) (c := 1) (fun i => by unfold one; omega) i
    refine brD (fun hc2 => ?_) fun hc2 => ?_
    · have hi2 : i < c := by omega
      simp only [e1]
      have e2 : IntKind.i64.wrap (((j * c : Nat) : Int) + (i : Int)) = ((j * c + i : Nat) : Int) := by
        rw [w64 (by omega) (by omega)]; omega
      rw [e2]
      refine in_ok hx (by omega) ?_
      have eb : x.testBit (j * c + i) = (partG c m j).testBit i := by
        unfold partG
        rw [← hm, Nat.testBit_mod_two_pow, decide_eq_true hi2, Bool.true_and, Nat.testBit_div_two_pow, Nat.testBit_mod_two_pow, decide_eq_true (by omega : i + j * c < r * c), Bool.true_and, Nat.add_comm]
      rw [eb, w64 (n := (i : Int) + 1) (by omega) (by omega), w64 (n := csm one (partG c m j) i + 1) (by omega) (by omega)]
      refine brB (fun ht => let_ (let_ ⟨⟨i + 1, by omega, by omega, ?_, rfl⟩, by omega⟩)) fun ht => let_ ⟨⟨i + 1, by omega, by omega, ?_, rfl⟩, by omega⟩
      · show _ = csm one (partG c m j) i + (if (partG c m j).testBit i = true then one i else 0)
        rw [if_pos ht]; rfl
      · show _ = csm one (partG c m j) i + (if (partG c m j).testBit i = true then one i else 0)
        rw [if_neg (by rw [ht]; decide), Int.add_zero]
    · obtain rfl : i = c := by omega
      obtain ⟨p1, p2⟩ := part_cnt ⟨i, by omega⟩ ⟨partG i m j, hp7 j⟩ (hpart j)
      simp only at p1 p2
      rw [w64 (n := (j : Int) + 1) (by omega) (by omega)]
      refine br beq_iff_eq (fun hz => ?_) fun hz => ?_
      · have : gAll i m (j + 1) = false := by rw [gAll_succ, hall, decide_eq_false (fun x => x (p1.1 hz))]; rfl
        exact hR _ (by rw [gAll_le (by omega) this]; rfl)
      · have hnz : partG i m j ≠ 0 := fun x => hz (p1.2 x)
        have ha : gAll i m (j + 1) = true := by rw [gAll_succ, hall, decide_eq_true hnz]; rfl
        refine brB (fun hf => ?_) fun hf => let_ ?_
        · exact let_ ⟨⟨j + 1, by omega, by omega, by rw [gAny_succ, hf]; rfl, ha, rfl⟩, by omega⟩
        · refine let_ ⟨⟨j + 1, by omega, by omega, ?_, ha, rfl⟩, by omega⟩
          rw [gAny_succ, hf, Bool.false_or, Bool.eq_iff_iff, beq_iff_eq, decide_eq_true_iff]
          exact p2
  · have hc1 : ¬ (j : Int) < (r : Int) := hc1
    obtain rfl : j = r := by omega
    exact hR _ (by rw [hall]; rfl)
end
end Go.Proofs.Ytegbnmaglkpkjaa
