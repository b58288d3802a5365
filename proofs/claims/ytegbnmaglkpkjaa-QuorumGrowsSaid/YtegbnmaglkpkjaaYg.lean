/-
  Layer 36 (quorum): the document's least quorums; the laws' helpers.
-/
import Derived.Test.YtegbnmaglkpkjaaYf
namespace Go.Proofs.Ytegbnmaglkpkjaa
open Go

section
variable {h : Heap} {k : KV} {n : Nat} {q : Nat → Bool}
theorem same_ok {s s' : Sl} {l : List Nat} (A : RdS h 1 s (eS.fl l)) (A' : RdS h 1 s' (eS.fl l)) (hl : l.length ≤ 128) {R : Bool → Heap → Prop} (hR : R true h) : C_law36_same s s' h R := by
  refine A_law36_same ?_
  unfold S_law36_same
  have e1 := rdn A
  have e2 := rdn A'
  refine brN (by rw [e1, e2]; exact bne_self_eq_false _) ?_
  refine loop1 (s1 := .one (.int .i64)) (fun (y : Int) g => ∃ j : Nat, y = j ∧ j ≤ l.length ∧ g = h) (fun (y : Int) _ => (l.length - y).toNat) ⟨0, rfl, Nat.zero_le _, rfl⟩ fun _ (y : Int) g hI => ?_
  obtain ⟨j, rfl, hj, rfl⟩ := hI
  refine brD (fun hc => ?_) fun hc => ?_
  · have hj2 : j < l.length := by omega
    refine ixR A j rfl hj2 fun e he => ?_
    refine ldR0 A he hj2 ((l[j] : Nat) : Int) rfl ?_
    refine ixR A' j rfl hj2 fun e he => ?_
    refine ldR0 A' he hj2 ((l[j] : Nat) : Int) rfl ?_
    refine brN (bne_self_eq_false _) ?_
    rw [w64 (n := (j : Int) + 1) (by omega) (by omega)]
    exact ⟨⟨j + 1, by omega, by omega, rfl⟩, by omega⟩
  · exact hR
theorem KLeast_ok {hB : Heap} (K : KQ hB k n q) {R : Sl → Heap → Prop} (hR : ∀ s h', Ext hB.size hB h' → RdS h' 1 s (eS.fl (leastL q n)) → R s h') : C_ref36_Kind_Least k hB R := by
  obtain ⟨kd, kn, kr, kk, ks, ka, kb, ⟨⟩⟩ := k
  have hn := K.n7
  obtain rfl : kn = (n : Int) := K.n1
  have p1 := pow128 hn
  have es := shl1_eq ⟨n, by omega⟩
  simp only at es
  have un : IntKind.u64.wrap (n : Int) = n := wu64 (by omega) (by omega)
  refine A_ref36_Kind_Least ?_
  unfold S_ref36_Kind_Least
  dsimp only
  have H := At.start hB
  repeat (first | with_reducible refine nn ?_ | with_reducible refine let_ ?_ | with_reducible refine brSome ?_ | with_reducible refine brF ?_ | with_reducible refine brT ?_ | ((with_reducible apply ldAt H 0); exact rfl; exact rfl) | ((with_reducible apply ldAt0 H 0); exact rfl; exact rfl) | ((with_reducible apply stAt H 0); exact rfl; exact rfl; intro h H) | ((with_reducible apply stAt0 H 0); exact rfl; exact rfl; intro h H) | ((with_reducible apply allocAt H); intro h b H) | ((with_reducible refine ⟨?_, ?_⟩); first | ((with_reducible apply ldAt H 0); exact rfl; exact rfl; exact rfl) | ((with_reducible apply ldAt0 H 0); exact rfl; exact rfl; exact rfl)))
  have H := H.nil 1
  refine loop2 (s1 := .one .sl) (s2 := .one (.int .u64)) (fun (s : Sl) (y : Int) h1 => ∃ j : Nat, y = j ∧ j ≤ 2 ^ n ∧ At hB h1 [.own s 1 (eS.fl ((List.range j).filter (leastB q n))), .blk b 70 [.int .i64 kd, .int .i64 (n : Int), .int .i64 kr, .int .i64 kk, .slice ks.a ks.n ks.c, .int .u64 ka, .int .u64 kb]]) (fun _ (y : Int) _ => ((2 ^ n : Nat) - y).toNat) ⟨0, rfl, Nat.zero_le _, H⟩ fun _ (s : Sl) (y : Int) h1 hI => ?_
  obtain ⟨j, rfl, hj, H⟩ := hI
  repeat (first | with_reducible refine nn ?_ | with_reducible refine let_ ?_ | with_reducible refine brSome ?_ | with_reducible refine brF ?_ | with_reducible refine brT ?_ | ((with_reducible apply ldAt H 0); exact rfl; exact rfl) | ((with_reducible apply ldAt0 H 0); exact rfl; exact rfl) | ((with_reducible apply ldAt H 1); exact rfl; exact rfl) | ((with_reducible apply ldAt0 H 1); exact rfl; exact rfl) | ((with_reducible apply stAt H 0); exact rfl; exact rfl; intro h H) | ((with_reducible apply stAt0 H 0); exact rfl; exact rfl; intro h H) | ((with_reducible apply stAt H 1); exact rfl; exact rfl; intro h H) | ((with_reducible apply stAt0 H 1); exact rfl; exact rfl; intro h H) | ((with_reducible apply allocAt H); intro h b H) | ((with_reducible refine ⟨?_, ?_⟩); first | ((with_reducible apply ldAt H 0); exact rfl; exact rfl; exact rfl) | ((with_reducible apply ldAt0 H 0); exact rfl; exact rfl; exact rfl) | ((with_reducible apply ldAt H 1); exact rfl; exact rfl; exact rfl) | ((with_reducible apply ldAt0 H 1); exact rfl; exact rfl; exact rfl)))
  refine nneg (by rw [un]; omega) ?_
  rw [es]
  refine brD (fun hc => ?_) fun hc => ?_
  · have hj2 : j < 2 ^ n := by omega
    repeat (first | with_reducible refine nn ?_ | with_reducible refine let_ ?_ | with_reducible refine brSome ?_ | with_reducible refine brF ?_ | with_reducible refine brT ?_ | ((with_reducible apply ldAt H 0); exact rfl; exact rfl) | ((with_reducible apply ldAt0 H 0); exact rfl; exact rfl) | ((with_reducible apply ldAt H 1); exact rfl; exact rfl) | ((with_reducible apply ldAt0 H 1); exact rfl; exact rfl) | ((with_reducible apply stAt H 0); exact rfl; exact rfl; intro h H) | ((with_reducible apply stAt0 H 0); exact rfl; exact rfl; intro h H) | ((with_reducible apply stAt H 1); exact rfl; exact rfl; intro h H) | ((with_reducible apply stAt0 H 1); exact rfl; exact rfl; intro h H) | ((with_reducible apply allocAt H); intro h b H) | ((with_reducible refine ⟨?_, ?_⟩); first | ((with_reducible apply ldAt H 0); exact rfl; exact rfl; exact rfl) | ((with_reducible apply ldAt0 H 0); exact rfl; exact rfl; exact rfl) | ((with_reducible apply ldAt H 1); exact rfl; exact rfl; exact rfl) | ((with_reducible apply ldAt0 H 1); exact rfl; exact rfl; exact rfl)))
    refine K.is_ h1 H.ext j (by omega) _ fun h2 e2 => ?_
    rw [Nat.mod_eq_of_lt hj2]
    have H := H.ext' e2
    refine loop2 (s1 := .one .bool) (s2 := .one (.int .i64)) (fun (l : Bool) (y : Int) g => ∃ i : Nat, y = i ∧ i ≤ n ∧ l = (q j && lAll q j i) ∧ At hB g [.own s 1 (eS.fl ((List.range j).filter (leastB q n))), .blk b 70 [.int .i64 kd, .int .i64 (n : Int), .int .i64 kr, .int .i64 kk, .slice ks.a ks.n ks.c, .int .u64 ka, .int .u64 kb]]) (fun _ (y : Int) _ => (n - y).toNat) ⟨0, rfl, Nat.zero_le _, (Bool.and_true _).symm, H⟩ fun _ (l : Bool) (y : Int) g hI => ?_
    obtain ⟨i, rfl, hi, hl, H⟩ := hI
    have hs := lAll_succ q j i
    repeat (first | with_reducible refine nn ?_ | with_reducible refine let_ ?_ | with_reducible refine brSome ?_ | with_reducible refine brF ?_ | with_reducible refine brT ?_ | ((with_reducible apply ldAt H 0); exact rfl; exact rfl) | ((with_reducible apply ldAt0 H 0); exact rfl; exact rfl) | ((with_reducible apply ldAt H 1); exact rfl; exact rfl) | ((with_reducible apply ldAt0 H 1); exact rfl; exact rfl) | ((with_reducible apply stAt H 0); exact rfl; exact rfl; intro h H) | ((with_reducible apply stAt0 H 0); exact rfl; exact rfl; intro h H) | ((with_reducible apply stAt H 1); exact rfl; exact rfl; intro h H) | ((with_reducible apply stAt0 H 1); exact rfl; exact rfl; intro h H) | ((with_reducible apply allocAt H); intro h b H) | ((with_reducible refine ⟨?_, ?_⟩); first | ((with_reducible apply ldAt H 0); exact rfl; exact rfl; exact rfl) | ((with_reducible apply ldAt0 H 0); exact rfl; exact rfl; exact rfl) | ((with_reducible apply ldAt H 1); exact rfl; exact rfl; exact rfl) | ((with_reducible apply ldAt0 H 1); exact rfl; exact rfl; exact rfl)))
    refine brD (fun hc2 => ?_) fun hc2 => ?_
    · have hi2 : i < n := by
        have hc2 : (i : Int) < (n : Int) := hc2
        omega
      rw [w64 (n := (i : Int) + 1) (by omega) (by omega)]
      refine brB (fun hlb => ?_) fun hlb => ?_
      · have hl2 : (q j && lAll q j i) = true := by rw [← hl, hlb]
        obtain ⟨hq1, hq2⟩ := Bool.and_eq_true_iff.1 hl2
        refine in_ok (by omega) (by omega) ?_
        refine brNot (fun ht => ?_) fun ht => ?_
        · exact let_ ⟨⟨i + 1, by omega, by omega, by rw [hs, hq1, hq2, ht]; rfl, H⟩, by omega⟩
        · repeat (first | with_reducible refine nn ?_ | with_reducible refine let_ ?_ | with_reducible refine brSome ?_ | with_reducible refine brF ?_ | with_reducible refine brT ?_ | ((with_reducible apply ldAt H 0); exact rfl; exact rfl) | ((with_reducible apply ldAt0 H 0); exact rfl; exact rfl) | ((with_reducible apply ldAt H 1); exact rfl; exact rfl) | ((with_reducible apply ldAt0 H 1); exact rfl; exact rfl) | ((with_reducible apply stAt H 0); exact rfl; exact rfl; intro h H) | ((with_reducible apply stAt0 H 0); exact rfl; exact rfl; intro h H) | ((with_reducible apply stAt H 1); exact rfl; exact rfl; intro h H) | ((with_reducible apply stAt0 H 1); exact rfl; exact rfl; intro h H) | ((with_reducible apply allocAt H); intro h b H) | ((with_reducible refine ⟨?_, ?_⟩); first | ((with_reducible apply ldAt H 0); exact rfl; exact rfl; exact rfl) | ((with_reducible apply ldAt0 H 0); exact rfl; exact rfl; exact rfl) | ((with_reducible apply ldAt H 1); exact rfl; exact rfl; exact rfl) | ((with_reducible apply ldAt0 H 1); exact rfl; exact rfl; exact rfl)))
          have ui : IntKind.u64.wrap (i : Int) = i := wu64 (by omega) (by omega)
          refine nneg (by rw [ui]; omega) ?_
          have ei := shl1_eq ⟨i, by omega⟩
          simp only at ei
          have h2i := sub_pow ht
          have h2p := Nat.two_pow_pos i
          have ew : IntKind.u64.wrap ((j : Int) - ((2 ^ i : Nat) : Int)) = ((j - 2 ^ i : Nat) : Int) := by
            rw [wu64 (by omega) (by omega)]; omega
          rw [ei, ew]
          have hle : j - 2 ^ i ≤ j := Nat.sub_le _ _
          refine K.is_ g H.ext (j - 2 ^ i) (by omega) _ fun h3 e3 => ?_
          rw [Nat.mod_eq_of_lt (by omega)]
          exact let_ (let_ ⟨⟨i + 1, by omega, by omega, by rw [hs, hq1, hq2, ht]; rfl, H.ext' e3⟩, by omega⟩)
      · refine let_ ⟨⟨i + 1, by omega, by omega, ?_, H⟩, by omega⟩
        rw [hs, ← Bool.and_assoc, ← hl, hlb]; rfl
    · obtain rfl : i = n := by
        have hc2 : ¬ (i : Int) < (n : Int) := hc2
        omega
      rw [wu64 (n := (j : Int) + 1) (by omega) (by omega)]
      refine brB (fun hb => ?_) fun hb => ?_
      · have ll := least_len q i j
        have hb : leastB q i j = true := by rw [leastB_eq, ← hl, hb]
        refine app1At (E := eS) TUint H 0 rfl j (by omega) (by omega) fun s' h' H => ?_
        refine let_ ⟨⟨j + 1, by omega, by omega, ?_⟩, by omega⟩
        rw [List.range_succ, List.filter_append, List.filter_cons, if_pos hb]
        exact H
      · have hb : leastB q i j = false := by rw [leastB_eq, ← hl, hb]
        refine let_ ⟨⟨j + 1, by omega, by omega, ?_⟩, by omega⟩
        rw [List.range_succ, List.filter_append, List.filter_cons, if_neg (by rw [hb]; decide), List.filter_nil, List.append_nil]
        exact H
  · obtain rfl : j = 2 ^ n := by omega
    exact hR s h1 H.ext (H.rdo 0 rfl)
end
section
variable {d n : Nat} {r : QR} {k : KV}
theorem all1_eq : ∀ n : Fin 8, IntKind.u64.wrap (((2 ^ n.val : Nat) : Int) - 1) = ((2 ^ n.val - 1 : Nat) : Int) := by decide +kernel
theorem tells_ok {hB : Heap} (S : SysR hB d n r) (hok : r.ok n) (K : KQ hB k n r.q) {x : Nat} (hx : x < 18446744073709551616) {R : Bool → Heap → Prop} (hR : ∀ h', Ext hB.size hB h' → R true h') : C_law36_tells (some ⟨d, 0, none⟩) k (x : Int) hB R := by
  obtain ⟨kd, kn, kr, kk, ks, ka, kb, ⟨⟩⟩ := k
  have hn := K.n7
  obtain rfl : kn = (n : Int) := K.n1
  have p1 := pow128 hn
  have p2 := Nat.two_pow_pos n
  have es := shl1_eq ⟨n, by omega⟩
  have ea := all1_eq ⟨n, by omega⟩
  simp only at es ea
  have un : IntKind.u64.wrap (n : Int) = n := wu64 (by omega) (by omega)
  refine A_law36_tells ?_
  unfold S_law36_tells
  dsimp only
  have H := At.start hB
  repeat (first | with_reducible refine nn ?_ | with_reducible refine let_ ?_ | with_reducible refine brSome ?_ | with_reducible refine brF ?_ | with_reducible refine brT ?_ | ((with_reducible apply ldAt H 0); exact rfl; exact rfl) | ((with_reducible apply ldAt0 H 0); exact rfl; exact rfl) | ((with_reducible apply stAt H 0); exact rfl; exact rfl; intro h H) | ((with_reducible apply stAt0 H 0); exact rfl; exact rfl; intro h H) | ((with_reducible apply allocAt H); intro h b H) | ((with_reducible refine ⟨?_, ?_⟩); first | ((with_reducible apply ldAt H 0); exact rfl; exact rfl; exact rfl) | ((with_reducible apply ldAt0 H 0); exact rfl; exact rfl; exact rfl)))
  refine join1 (s1 := .one .bool) (fun (y : Bool) g => y = false ∧ At hB g [.blk b 70 [.int .i64 kd, .int .i64 (n : Int), .int .i64 kr, .int .i64 kk, .slice ks.a ks.n ks.c, .int .u64 ka, .int .u64 kb]]) (fun _ (y : Bool) g hJ => ?_) ?_
  · obtain ⟨rfl, H⟩ := hJ
    refine brF ?_
    repeat (first | with_reducible refine nn ?_ | with_reducible refine let_ ?_ | with_reducible refine brSome ?_ | with_reducible refine brF ?_ | with_reducible refine brT ?_ | ((with_reducible apply ldAt H 0); exact rfl; exact rfl) | ((with_reducible apply ldAt0 H 0); exact rfl; exact rfl) | ((with_reducible apply stAt H 0); exact rfl; exact rfl; intro h H) | ((with_reducible apply stAt0 H 0); exact rfl; exact rfl; intro h H) | ((with_reducible apply allocAt H); intro h b H) | ((with_reducible refine ⟨?_, ?_⟩); first | ((with_reducible apply ldAt H 0); exact rfl; exact rfl; exact rfl) | ((with_reducible apply ldAt0 H 0); exact rfl; exact rfl; exact rfl)))
    refine nneg (by rw [un]; omega) (let_ ?_)
    rw [es, ea]
    repeat (first | with_reducible refine nn ?_ | with_reducible refine let_ ?_ | with_reducible refine brSome ?_ | with_reducible refine brF ?_ | with_reducible refine brT ?_ | ((with_reducible apply ldAt H 0); exact rfl; exact rfl) | ((with_reducible apply ldAt0 H 0); exact rfl; exact rfl) | ((with_reducible apply stAt H 0); exact rfl; exact rfl; intro h H) | ((with_reducible apply stAt0 H 0); exact rfl; exact rfl; intro h H) | ((with_reducible apply allocAt H); intro h b H) | ((with_reducible refine ⟨?_, ?_⟩); first | ((with_reducible apply ldAt H 0); exact rfl; exact rfl; exact rfl) | ((with_reducible apply ldAt0 H 0); exact rfl; exact rfl; exact rfl)))
    refine loop2 (s1 := .one (.int .i64)) (s2 := .one (.int .u64)) (fun (l y : Int) g => ∃ j : Nat, y = j ∧ j ≤ 2 ^ n ∧ l = tolF r.q n j ∧ At hB g [.blk b 70 [.int .i64 kd, .int .i64 (n : Int), .int .i64 kr, .int .i64 kk, .slice ks.a ks.n ks.c, .int .u64 ka, .int .u64 kb]]) (fun _ (y : Int) _ => ((2 ^ n : Nat) - y).toNat) ⟨0, rfl, Nat.zero_le _, rfl, H⟩ fun _ (l y : Int) h1 hI => ?_
    obtain ⟨j, rfl, hj, rfl, H⟩ := hI
    refine brD (fun hc => ?_) fun hc => ?_
    · have hj2 : j < 2 ^ n := by omega
      repeat (first | with_reducible refine nn ?_ | with_reducible refine let_ ?_ | with_reducible refine brSome ?_ | with_reducible refine brF ?_ | with_reducible refine brT ?_ | ((with_reducible apply ldAt H 0); exact rfl; exact rfl) | ((with_reducible apply ldAt0 H 0); exact rfl; exact rfl) | ((with_reducible apply stAt H 0); exact rfl; exact rfl; intro h H) | ((with_reducible apply stAt0 H 0); exact rfl; exact rfl; intro h H) | ((with_reducible apply allocAt H); intro h b H) | ((with_reducible refine ⟨?_, ?_⟩); first | ((with_reducible apply ldAt H 0); exact rfl; exact rfl; exact rfl) | ((with_reducible apply ldAt0 H 0); exact rfl; exact rfl; exact rfl)))
      refine Survives_ok (S.ext H.ext) hok hj2 fun h2 e2 => ?_
      have H := H.ext' e2
      refine ⟨?_, ?_⟩
      · repeat (first | with_reducible refine nn ?_ | with_reducible refine let_ ?_ | with_reducible refine brSome ?_ | with_reducible refine brF ?_ | with_reducible refine brT ?_ | ((with_reducible apply ldAt H 0); exact rfl; exact rfl) | ((with_reducible apply ldAt0 H 0); exact rfl; exact rfl) | ((with_reducible apply stAt H 0); exact rfl; exact rfl; intro h H) | ((with_reducible apply stAt0 H 0); exact rfl; exact rfl; intro h H) | ((with_reducible apply allocAt H); intro h b H) | ((with_reducible refine ⟨?_, ?_⟩); first | ((with_reducible apply ldAt H 0); exact rfl; exact rfl; exact rfl) | ((with_reducible apply ldAt0 H 0); exact rfl; exact rfl; exact rfl)))
        rfl
      have ew : IntKind.u64.wrap (((2 ^ n - 1 : Nat) : Int) - (j : Int)) = ((2 ^ n - 1 - j : Nat) : Int) := by
        rw [wu64 (by omega) (by omega)]; omega
      rw [ew]
      refine K.is_ h2 H.ext _ (by omega) _ fun h3 e3 => ?_
      have H := H.ext' e3
      rw [Nat.mod_eq_of_lt (by omega : 2 ^ n - 1 - j < 2 ^ n)]
      refine brN (by simp) ?_
      repeat (first | with_reducible refine nn ?_ | with_reducible refine let_ ?_ | with_reducible refine brSome ?_ | with_reducible refine brF ?_ | with_reducible refine brT ?_ | ((with_reducible apply ldAt H 0); exact rfl; exact rfl) | ((with_reducible apply ldAt0 H 0); exact rfl; exact rfl) | ((with_reducible apply stAt H 0); exact rfl; exact rfl; intro h H) | ((with_reducible apply stAt0 H 0); exact rfl; exact rfl; intro h H) | ((with_reducible apply allocAt H); intro h b H) | ((with_reducible refine ⟨?_, ?_⟩); first | ((with_reducible apply ldAt H 0); exact rfl; exact rfl; exact rfl) | ((with_reducible apply ldAt0 H 0); exact rfl; exact rfl; exact rfl)))
      refine size_ok (by omega) hn ?_
      repeat (first | with_reducible refine nn ?_ | with_reducible refine let_ ?_ | with_reducible refine brSome ?_ | with_reducible refine brF ?_ | with_reducible refine brT ?_ | ((with_reducible apply ldAt H 0); exact rfl; exact rfl) | ((with_reducible apply ldAt0 H 0); exact rfl; exact rfl) | ((with_reducible apply stAt H 0); exact rfl; exact rfl; intro h H) | ((with_reducible apply stAt0 H 0); exact rfl; exact rfl; intro h H) | ((with_reducible apply allocAt H); intro h b H) | ((with_reducible refine ⟨?_, ?_⟩); first | ((with_reducible apply ldAt H 0); exact rfl; exact rfl; exact rfl) | ((with_reducible apply ldAt0 H 0); exact rfl; exact rfl; exact rfl)))
      refine K.is_ h3 H.ext _ (by omega) _ fun h4 e4 => ?_
      have H := H.ext' e4
      rw [Nat.mod_eq_of_lt (by omega : 2 ^ n - 1 - j < 2 ^ n), wu64 (n := (j : Int) + 1) (by omega) (by omega)]
      have e7 : csm one j n = csm one j 7 := by
        have := csm_one_mod (x := j) hn
        rw [Nat.mod_eq_of_lt hj2] at this
        exact this.symm
      rw [e7]
      have e8 := tolF_succ r.q n j
      refine brNot (fun hq => ?_) fun hq => ?_
      · rw [if_neg (by rw [hq]; decide)] at e8
        refine brD (fun hlt => let_ ⟨⟨j + 1, by omega, by omega, by rw [e8]; omega, H⟩, by omega⟩) fun hlt => let_ ⟨⟨j + 1, by omega, by omega, by rw [e8]; omega, H⟩, by omega⟩
      · rw [if_pos hq] at e8
        exact let_ ⟨⟨j + 1, by omega, by omega, e8.symm, H⟩, by omega⟩
    · obtain rfl : j = 2 ^ n := by omega
      refine Tol_ok (S.ext H.ext) hok fun h2 e2 => ?_
      have hb := tolF_bd (q := r.q) (n := n) (2 ^ n)
      rw [w64 (by omega) (by omega), beq_self_eq_true]
      exact hR _ (H.ext' e2).ext
  · refine brSome ?_
    repeat (first | with_reducible refine nn ?_ | with_reducible refine let_ ?_ | with_reducible refine brSome ?_ | with_reducible refine brF ?_ | with_reducible refine brT ?_ | ((with_reducible apply ldAt H 0); exact rfl; exact rfl) | ((with_reducible apply ldAt0 H 0); exact rfl; exact rfl) | ((with_reducible apply stAt H 0); exact rfl; exact rfl; intro h H) | ((with_reducible apply stAt0 H 0); exact rfl; exact rfl; intro h H) | ((with_reducible apply allocAt H); intro h b H) | ((with_reducible refine ⟨?_, ?_⟩); first | ((with_reducible apply ldAt H 0); exact rfl; exact rfl; exact rfl) | ((with_reducible apply ldAt0 H 0); exact rfl; exact rfl; exact rfl)))
    refine Nodes_ok (S.ext H.ext) ?_
    repeat (first | with_reducible refine nn ?_ | with_reducible refine let_ ?_ | with_reducible refine brSome ?_ | with_reducible refine brF ?_ | with_reducible refine brT ?_ | ((with_reducible apply ldAt H 0); exact rfl; exact rfl) | ((with_reducible apply ldAt0 H 0); exact rfl; exact rfl) | ((with_reducible apply stAt H 0); exact rfl; exact rfl; intro h H) | ((with_reducible apply stAt0 H 0); exact rfl; exact rfl; intro h H) | ((with_reducible apply allocAt H); intro h b H) | ((with_reducible refine ⟨?_, ?_⟩); first | ((with_reducible apply ldAt H 0); exact rfl; exact rfl; exact rfl) | ((with_reducible apply ldAt0 H 0); exact rfl; exact rfl; exact rfl)))
    refine brN (bne_self_eq_false _) ?_
    repeat (first | with_reducible refine nn ?_ | with_reducible refine let_ ?_ | with_reducible refine brSome ?_ | with_reducible refine brF ?_ | with_reducible refine brT ?_ | ((with_reducible apply ldAt H 0); exact rfl; exact rfl) | ((with_reducible apply ldAt0 H 0); exact rfl; exact rfl) | ((with_reducible apply stAt H 0); exact rfl; exact rfl; intro h H) | ((with_reducible apply stAt0 H 0); exact rfl; exact rfl; intro h H) | ((with_reducible apply allocAt H); intro h b H) | ((with_reducible refine ⟨?_, ?_⟩); first | ((with_reducible apply ldAt H 0); exact rfl; exact rfl; exact rfl) | ((with_reducible apply ldAt0 H 0); exact rfl; exact rfl; exact rfl)))
    refine is_ok (S.ext H.ext) hok hx fun h2 e2 => ?_
    have H := H.ext' e2
    refine ⟨?_, ?_⟩
    · repeat (first | with_reducible refine nn ?_ | with_reducible refine let_ ?_ | with_reducible refine brSome ?_ | with_reducible refine brF ?_ | with_reducible refine brT ?_ | ((with_reducible apply ldAt H 0); exact rfl; exact rfl) | ((with_reducible apply ldAt0 H 0); exact rfl; exact rfl) | ((with_reducible apply stAt H 0); exact rfl; exact rfl; intro h H) | ((with_reducible apply stAt0 H 0); exact rfl; exact rfl; intro h H) | ((with_reducible apply allocAt H); intro h b H) | ((with_reducible refine ⟨?_, ?_⟩); first | ((with_reducible apply ldAt H 0); exact rfl; exact rfl; exact rfl) | ((with_reducible apply ldAt0 H 0); exact rfl; exact rfl; exact rfl)))
      rfl
    refine K.is_ h2 H.ext x hx _ fun h3 e3 => ?_
    have H := H.ext' e3
    refine brN (by simp) ?_
    repeat (first | with_reducible refine nn ?_ | with_reducible refine let_ ?_ | with_reducible refine brSome ?_ | with_reducible refine brF ?_ | with_reducible refine brT ?_ | ((with_reducible apply ldAt H 0); exact rfl; exact rfl) | ((with_reducible apply ldAt0 H 0); exact rfl; exact rfl) | ((with_reducible apply stAt H 0); exact rfl; exact rfl; intro h H) | ((with_reducible apply stAt0 H 0); exact rfl; exact rfl; intro h H) | ((with_reducible apply allocAt H); intro h b H) | ((with_reducible refine ⟨?_, ?_⟩); first | ((with_reducible apply ldAt H 0); exact rfl; exact rfl; exact rfl) | ((with_reducible apply ldAt0 H 0); exact rfl; exact rfl; exact rfl)))
    refine Least_ok (S.ext H.ext) hok fun s4 h4 e4 A4 => ?_
    have H := H.ext' e4
    refine ⟨?_, ?_⟩
    · repeat (first | with_reducible refine nn ?_ | with_reducible refine let_ ?_ | with_reducible refine brSome ?_ | with_reducible refine brF ?_ | with_reducible refine brT ?_ | ((with_reducible apply ldAt H 0); exact rfl; exact rfl) | ((with_reducible apply ldAt0 H 0); exact rfl; exact rfl) | ((with_reducible apply stAt H 0); exact rfl; exact rfl; intro h H) | ((with_reducible apply stAt0 H 0); exact rfl; exact rfl; intro h H) | ((with_reducible apply allocAt H); intro h b H) | ((with_reducible refine ⟨?_, ?_⟩); first | ((with_reducible apply ldAt H 0); exact rfl; exact rfl; exact rfl) | ((with_reducible apply ldAt0 H 0); exact rfl; exact rfl; exact rfl)))
      rfl
    refine KLeast_ok (K.ext H.ext) fun s5 h5 e5 A5 => ?_
    have H := H.ext' e5
    refine same_ok (A4.ext' e5) A5 (leastL_len hn) ⟨rfl, H⟩
end
end Go.Proofs.Ytegbnmaglkpkjaa
