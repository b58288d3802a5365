/-
  Layer 33 (slot): the law SlotWhole over the heap alone.
-/
import Derived.Test.YtnognoiaakiepaaS4
namespace Go.Proofs.Ytnognoiaakiepaa
open Go

/-- The end of a round: what was read is compared; the next round. -/
def BackW (R : Bool → Heap → Prop) (go : ByteArray → Int → Int → Heap → Prop) (r3 : Sl) (r4 x21 : Int) (now1 : ByteArray) (number1 : Int) (h_14 : Heap) : Prop :=
  ToS Try.prog 22 9 r3 h_14 fun str5 =>
  (bif !(str5.toList == now1.toList) then
    R false h_14
  else
    (bif r4 != number1 then
      R false h_14
    else
      go now1 number1 (IntKind.i64.wrap (x21 + 1)) h_14
    )
  )
def TailW (R : Bool → Heap → Prop) (go : ByteArray → Int → Int → Heap → Prop) (a : Addr) (r3 : Sl) (r4 number x21 : Int) (now : ByteArray) (done : Bool) (h_13 : Heap) : Prop :=
  (bif done then
    ToS Try.prog 22 9 r3 h_13 fun str =>
    Ld .sl h_13 (a.add 1) fun (Content : Sl) =>
    ToS Try.prog 22 9 Content h_13 fun str1 =>
    (bif !(str.toList == str1.toList) then
      R false h_13
    else
      (bif r4 != (IntKind.i64.wrap (number + 1)) then
        R false h_13
      else
        ToS Try.prog 22 9 r3 h_13 fun str2 =>
        go str2 r4 (IntKind.i64.wrap (x21 + 1)) h_13
      )
    )
  else
    (bif r4 == (IntKind.i64.wrap (number + 1)) then
      Ld (.int .u8) h_13 a fun (Kind1 : Int) =>
      Nz 5 (
      (bif decide ((divV .rem .u8 Kind1 5) < 4) then
        Ld (.int .i64) h_13 (a.add 2) fun (Steps : Int) =>
        (bif Steps == 2 then
          ToS Try.prog 22 9 r3 h_13 fun str3 =>
          Ld .sl h_13 (a.add 1) fun (Content1 : Sl) =>
          ToS Try.prog 22 9 Content1 h_13 fun str4 =>
          Join [.one .str, .one (.int .i64)] (fun _ (now1 : ByteArray) (number1 : Int) h_14 => BackW R go r3 r4 x21 now1 number1 h_14) fun J2 =>
          (bif str3.toList == str4.toList then
            ToS Try.prog 22 9 r3 h_13 fun str6 =>
            J2 str6 r4 h_13
          else
            J2 now number h_13
          )
        else
          Join [.one .str, .one (.int .i64)] (fun _ (now2 : ByteArray) (number2 : Int) h_15 => BackW R go r3 r4 x21 now2 number2 h_15) fun J3 =>
          J3 now number h_13
        )
      else
        Join [.one .str, .one (.int .i64)] (fun _ (now3 : ByteArray) (number3 : Int) h_16 => BackW R go r3 r4 x21 now3 number3 h_16) fun J4 =>
        J4 now number h_13
      )
      )
    else
      Join [.one .str, .one (.int .i64)] (fun _ (now4 : ByteArray) (number4 : Int) h_17 => BackW R go r3 r4 x21 now4 number4 h_17) fun J5 =>
      J5 now number h_13
    )
  )
theorem BackW_ok {R : Bool → Heap → Prop} {go : ByteArray → Int → Int → Heap → Prop} {r3 : Sl} {x21 : Int} {h : Heap} {xs : List UInt8} {n : Nat} (hr : RdS h 1 r3 (cB xs)) (hgo : go (strB xs) (n : Int) (IntKind.i64.wrap (x21 + 1)) h) : BackW R go r3 n x21 (strB xs) n h := by
  unfold BackW
  exact toS BT hr (brN (by simp) (brN (by simp) hgo))
theorem TailW_ok {R : Bool → Heap → Prop} {go : ByteArray → Int → Int → Heap → Prop} {p1 : Nat} {t : TypeId} {a : AS} {r3 : Sl} {x21 : Int} {h : Heap} {xs nw : List UInt8} {n nn : Nat} {done : Bool}
    (hb : Blk h p1 t [.int .u8 (a.kind.toNat : Nat), .slice a.s.a a.s.n a.s.c, .int .i64 a.steps, .int .i64 a.keep, .int .i64 a.at_, .int .u8 (a.by_.toNat : Nat)]) (hc : RdS h 1 a.s (cB a.xs)) (hr : RdS h 1 r3 (cB xs)) (hn : nn ≤ 1000)
    (hcase : (done = true ∧ xs = a.xs ∧ n = nn + 1) ∨ (done = false ∧ ((xs = nw ∧ n = nn) ∨ (a.kind.toNat % 5 < 4 ∧ a.steps = 2 ∧ xs = a.xs ∧ n = nn + 1)))) (hgo : go (strB xs) (n : Int) (IntKind.i64.wrap (x21 + 1)) h) :
    TailW R go ⟨p1, 0, none⟩ r3 n nn x21 (strB nw) done h := by
  unfold TailW
  rcases hcase with ⟨rfl, rfl, rfl⟩ | ⟨rfl, hcase⟩
  · refine brT (toS BT hr (ldF hb a.s rfl (toS BT hc (brN (by simp) (brN ?_ (toS BT hr hgo))))))
    rw [w64 (by omega) (by omega)]; simp
  · refine brF ?_
    rw [w64 (by omega) (by omega)]
    rcases hcase with ⟨rfl, rfl⟩ | ⟨hk, hs, rfl, rfl⟩
    · refine brN (by rw [beq_eq_false_iff_ne]; omega) ?_
      exact join2 (s1 := .one .str) (s2 := .one (.int .i64)) (fun (x : ByteArray) (y : Int) h' => x = strB xs ∧ y = n ∧ h' = h) (fun _ (x : ByteArray) (y : Int) h' hJ => by
        obtain ⟨rfl, rfl, rfl⟩ := hJ
        exact BackW_ok hr hgo) ⟨rfl, rfl, rfl⟩
    · refine brY (by rw [beq_iff_eq]; omega) (ldB hb ((a.kind.toNat : Nat) : Int) rfl (nz (by decide) (brY ?_ (ldF hb a.steps rfl (brY (by rw [hs]; rfl) (toS BT hr (ldF hb a.s rfl (toS BT hc ?_))))))))
      · rw [rem_nonneg (by omega)]; exact decide_eq_true (by omega)
      · exact join2 (s1 := .one .str) (s2 := .one (.int .i64)) (fun (x : ByteArray) (y : Int) h' => x = strB a.xs ∧ y = ((nn + 1 : Nat) : Int) ∧ h' = h) (fun _ (x : ByteArray) (y : Int) h' hJ => by
          obtain ⟨rfl, rfl, rfl⟩ := hJ
          exact BackW_ok hr hgo) (brY (by simp) (toS BT hr ⟨rfl, rfl, rfl⟩))
set_option maxRecDepth 100000 in
set_option maxHeartbeats 1000000 in
theorem law33_SlotWhole_ok {l : Sl} {hB : Heap} {acts : List AS} (w0 : ArgA4 hB l acts) :
    C_law33_SlotWhole l hB fun r h' => r = true ∧ Ext hB.size hB h' := by
  refine A_law33_SlotWhole ?_
  unfold S_law33_SlotWhole
  obtain ⟨⟨A, hA⟩, hlm⟩ := w0
  have hn := rdn A
  refine law33_fixed_ok fun h0 e0 => brN rfl ?_
  refine law33_few_ok (At.of_ext e0) A hA (fun h1 v H hv => ?_) (by omega)
  cases v with
  | false => exact brY rfl ⟨rfl, H.ext⟩
  | true =>
  obtain ⟨hl40, h200⟩ := hv rfl
  refine brN rfl ?_
  refine slot_New_ok H fun h2 p z H => ?_
  refine loop3 (s1 := .one .str) (s2 := .one (.int .i64)) (s3 := .one (.int .i64)) (fun (now : ByteArray) (number : Int) (x : Int) h3 => ∃ (k nn : Nat) (nw : List UInt8) (z : PS) (xa xb : List UInt8), now = strB nw ∧ number = nn ∧ x = k ∧ k ≤ acts.length ∧ nn ≤ k ∧ At hB h3 (pairL p z xa xb ++ []) ∧ xa.length ≤ 5000 ∧ xb.length ≤ 5000 ∧ (newestS xa xb).2 = (nw, nn)) (fun _ _ (x : Int) _ => (acts.length - x).toNat)
    ⟨0, 0, [], z, [], [], rfl, rfl, rfl, Nat.zero_le _, Nat.zero_le _, H, Nat.zero_le _, Nat.zero_le _, by rw [fx_nil]⟩ fun _ (now : ByteArray) (number : Int) (x : Int) h3 hI => ?_
  obtain ⟨k, nn, nw, z, xa, xb, rfl, rfl, rfl, hk, hnk, H, la, lb, hnew⟩ := hI
  refine brD (fun hc => ?_) fun hc => ⟨rfl, H.ext⟩
  have hk2 : k < acts.length := by omega
  have hx := hA _ (List.getElem_mem hk2)
  have hxn := rd_b hx
  have hx2 := h200 _ (List.getElem_mem hk2)
  refine ixR (H.arg A) k rfl hk2 fun e he => ?_
  repeat (first | with_reducible refine nn ?_ | with_reducible refine let_ ?_ | with_reducible refine brSome ?_ | with_reducible refine brF ?_ | with_reducible refine brT ?_ | ((with_reducible apply ldAt H 0); exact rfl; exact rfl) | ((with_reducible apply ldAt0 H 0); exact rfl; exact rfl) | ((with_reducible apply ldR (H.arg A)); assumption; (case hk => assumption); exact rfl) | ((with_reducible apply ldR0 (H.arg A)); assumption; (case hk => assumption); exact rfl) | ((with_reducible apply stAt H 0); exact rfl; exact rfl; intro h H) | ((with_reducible apply stAt0 H 0); exact rfl; exact rfl; intro h H) | ((with_reducible apply allocAt H); intro h b H) | ((with_reducible refine ⟨?_, ?_⟩); first | ((with_reducible apply ldAt H 0); exact rfl; exact rfl; exact rfl) | ((with_reducible apply ldAt0 H 0); exact rfl; exact rfl; exact rfl)))
  rename Nat => p1
  rename Heap => hw
  have H : At hB hw (pairL p z xa xb ++ [.blk p1 98 [.int .u8 (acts[k].kind.toNat : Nat), .slice acts[k].s.a acts[k].s.n acts[k].s.c, .int .i64 acts[k].steps, .int .i64 acts[k].keep, .int .i64 acts[k].at_, .int .u8 (acts[k].by_.toNat : Nat)]]) := H.mv 1 5
  have hk8 := acts[k].kind.toNat_lt
  have hrem : divV .rem .u8 (acts[k].kind.toNat : Int) 5 = ((acts[k].kind.toNat % 5 : Nat) : Int) := by rw [rem_nonneg (by omega)]; omega
  generalize hK : acts[k].kind.toNat % 5 = K at *
  have hK5 : K < 5 := by omega
  have hsb := slotB_length (nn + 1) acts[k].xs
  have hwh := wholeS_slotB (n := nn + 1) (c := acts[k].xs) (by omega) (by omega) (by omega)
  have hnew2 : (newestS xa xb).2.2 = nn := by rw [hnew]
  refine join1 (s1 := .one .bool) (fun (d : Bool) h' => h' = hw ∧ d = decide (K < 2 ∨ (K < 4 ∧ 2 < acts[k].steps))) (fun _ (d : Bool) h' hJ => ?_) ?_
  · obtain ⟨rfl, rfl⟩ := hJ
    refine ldAt0 H 5 rfl ((acts[k].kind.toNat : Nat) : Int) rfl (nz (by decide) ?_)
    rw [hrem]
    refine join1 (s1 := .one (.int .i64)) (fun (e1 : Int) h'' => e1 = 0 ∧ ∃ (z : PS) (ya yb : List UInt8), At hB h'' (pairL p z ya yb ++ [.blk p1 98 [.int .u8 (acts[k].kind.toNat : Nat), .slice acts[k].s.a acts[k].s.n acts[k].s.c, .int .i64 acts[k].steps, .int .i64 acts[k].keep, .int .i64 acts[k].at_, .int .u8 (acts[k].by_.toNat : Nat)]]) ∧ ya.length ≤ 5000 ∧ yb.length ≤ 5000 ∧
      (((K < 2 ∨ (K < 4 ∧ 2 < acts[k].steps)) ∧ (newestS ya yb).2 = (acts[k].xs, nn + 1)) ∨ (¬ (K < 2 ∨ (K < 4 ∧ 2 < acts[k].steps)) ∧ ((newestS ya yb).2 = (nw, nn) ∨ (K < 4 ∧ acts[k].steps = 2 ∧ (newestS ya yb).2 = (acts[k].xs, nn + 1)))))) (fun _ (e1 : Int) h'' hJ => ?_) ?_
    · obtain ⟨rfl, z2, ya, yb, H, lya, lyb, hcase⟩ := hJ
      refine slot_Read_ok H (by omega) (by omega) fun r3 h4 o4 f4 e4 => brN rfl ?_
      have H := H.ext' e4
      have hb : Blk h4 p1 _ _ := H.get 5 rfl
      have hcr := H.arg hx
      obtain ⟨ys, m, hys⟩ : ∃ ys m, (newestS ya yb).2 = (ys, m) := ⟨_, _, rfl⟩
      rw [hys] at o4 ⊢ hcase
      simp only [Prod.mk.injEq] at hcase
      have hcase2 : (decide (K < 2 ∨ (K < 4 ∧ 2 < acts[k].steps)) = true ∧ ys = acts[k].xs ∧ m = nn + 1) ∨ (decide (K < 2 ∨ (K < 4 ∧ 2 < acts[k].steps)) = false ∧ ((ys = nw ∧ m = nn) ∨ (acts[k].kind.toNat % 5 < 4 ∧ acts[k].steps = 2 ∧ ys = acts[k].xs ∧ m = nn + 1))) := by
        rw [hK, decide_eq_true_eq, decide_eq_false_iff_not]
        exact hcase
      have hmn : m = nn ∨ m = nn + 1 := by
        rcases hcase2 with ⟨_, _, h⟩ | ⟨_, ⟨_, h⟩ | ⟨_, _, _, h⟩⟩ <;> omega
      have tail := TailW_ok (R := fun (r : Bool) h' => r = true ∧ Ext hB.size hB h') (go := fun (now' : ByteArray) (number' : Int) (x' : Int) h' => (∃ (k nn : Nat) (nw : List UInt8) (z : PS) (xa xb : List UInt8), now' = strB nw ∧ number' = nn ∧ x' = k ∧ k ≤ acts.length ∧ nn ≤ k ∧ At hB h' (pairL p z xa xb ++ []) ∧ xa.length ≤ 5000 ∧ xb.length ≤ 5000 ∧ (newestS xa xb).2 = (nw, nn)) ∧ ((acts.length : Int) - x').toNat < ((acts.length : Int) - (k : Int)).toNat)
        (x21 := (k : Int)) hb hcr o4.rd (by omega : nn ≤ 1000) hcase2 (by
          rw [w64 (by omega) (by omega)]
          exact ⟨⟨k + 1, m, ys, z2, ya, yb, rfl, rfl, by omega, by omega, by omega, H.only, lya, lyb, hys⟩, by omega⟩)
      simp only
      by_cases hn0 : nn = 0
      · refine brN (decide_eq_false (by omega)) (brY (by rw [beq_iff_eq]; omega) ?_)
        by_cases hm0 : m = 0
        · rw [if_pos hm0]
          exact brY rfl (brN rfl tail)
        · rw [if_neg hm0]
          exact brN rfl tail
      · rw [if_neg (by omega)]
        exact brY (decide_eq_true (by omega)) (brN rfl (brN (by rw [beq_eq_false_iff_ne]; omega) tail))
    · refine join1 (s1 := .one .bool) (fun (x : Bool) h'' => x = decide (K < 2) ∧ h'' = h') (fun _ (x : Bool) h'' hJ => ?_) ?_
      · obtain ⟨rfl, rfl⟩ := hJ
        refine brD (fun hk2' => ?_) fun hk2' => ?_
        · refine ldAt H 5 rfl acts[k].s rfl ?_
          refine slot_Install_ok (F := [_]) H (H.arg hx) (by omega) (by omega) (fun hl => by omega) (fun _ hl => by omega) fun _ _ h4 z4 H => ⟨rfl, ?_⟩
          rw [hnew2] at H
          have h2 := twoS_le (a := xa) (b := xb) (t := slotB (nn + 1) acts[k].xs) (N := 5000) (atS xa xb) la lb (by omega)
          have h3 := (newest_put xa xb (slotB (nn + 1) acts[k].xs)).2 acts[k].xs (by rw [hnew2]; exact hwh)
          rw [hnew2] at h3
          exact ⟨z4, _, _, H, h2.1, h2.2, .inl ⟨.inl hk2', h3⟩⟩
        · refine join1 (s1 := .one .bool) (fun (x : Bool) g => x = decide (K < 4) ∧ g = h'') (fun _ (x : Bool) h'' hJ => ?_) ?_
          · obtain ⟨rfl, rfl⟩ := hJ
            refine brD (fun hk4 => ?_) fun hk4 => ?_
            · refine ldAt H 5 rfl acts[k].s rfl (ldAt H 5 rfl acts[k].steps rfl (ldAt H 5 rfl acts[k].keep rfl (ldAt H 5 rfl acts[k].at_ rfl (ldAt H 5 rfl ((acts[k].by_.toNat : Nat) : Int) rfl ?_))))
              refine slot_Torn_ok (y := acts[k].by_) (F := [_]) H (H.arg hx) rfl (by omega) (by omega) (fun hl => by omega) (fun _ hl => by omega) fun _ _ h4 z4 H => ⟨rfl, ?_⟩
              rw [hnew2] at H
              have h2 := twoS_le (a := xa) (b := xb) (N := 5000) (atS xa xb) la lb (tornS_le (b := selS (atS xa xb) xa xb) (f := slotB (nn + 1) acts[k].xs) acts[k].steps acts[k].keep acts[k].at_ acts[k].by_ (selS_le _ la lb) (by omega))
              have h3 := newest_put xa xb (tornS (selS (atS xa xb) xa xb) (slotB (nn + 1) acts[k].xs) acts[k].steps acts[k].keep acts[k].at_ acts[k].by_)
              rw [hnew2] at h3
              refine ⟨z4, _, _, H, h2.1, h2.2, ?_⟩
              rcases tornS_cases (selS (atS xa xb) xa xb) (n := nn + 1) (c := acts[k].xs) (by omega) acts[k].steps acts[k].keep acts[k].at_ acts[k].by_ with ⟨hs, ht⟩ | ⟨hs, ht⟩ | ⟨hs, ht⟩
              · refine .inr ⟨by omega, .inl ?_⟩
                rw [ht]
                have : twoS (atS xa xb) xa xb (selS (atS xa xb) xa xb) = (xa, xb) := by unfold twoS selS; split <;> rfl
                rw [this]
                exact hnew
              · refine .inr ⟨by omega, .inl ?_⟩
                rw [h3.1 ht, hnew]
              · have h4 := h3.2 acts[k].xs (by rw [ht]; exact hwh)
                by_cases h2s : acts[k].steps = 2
                · exact .inr ⟨by omega, .inr ⟨hk4, h2s, h4⟩⟩
                · exact .inl ⟨.inr ⟨hk4, by omega⟩, h4⟩
            · refine brY (by rw [beq_iff_eq]; omega) ?_
              refine ldAt H 5 rfl acts[k].keep rfl (ldAt H 5 rfl acts[k].at_ rfl (ldAt H 5 rfl ((acts[k].by_.toNat : Nat) : Int) rfl ?_))
              exact slot_Crash_ok (y := acts[k].by_) (F := [_]) H rfl (by omega) (by omega) fun h4 z4 H => ⟨rfl, z4, xa, xb, H, la, lb, .inr ⟨by omega, .inl hnew⟩⟩
          · refine br beq_iff_eq (fun h2 => ⟨?_, rfl⟩) fun h2 => ⟨?_, rfl⟩
            · rw [Bool.eq_iff_iff]; simp only [beq_iff_eq, decide_eq_true_eq]; omega
            · rw [Bool.eq_iff_iff]; simp only [beq_iff_eq, decide_eq_true_eq]; omega
      · refine br beq_iff_eq (fun h2 => ⟨?_, rfl⟩) fun h2 => ⟨?_, rfl⟩
        · rw [Bool.eq_iff_iff]; simp only [beq_iff_eq, decide_eq_true_eq]; omega
        · rw [Bool.eq_iff_iff]; simp only [beq_iff_eq, decide_eq_true_eq]; omega
  · refine ldAt0 H 5 rfl ((acts[k].kind.toNat : Nat) : Int) rfl (nz (by decide) ?_)
    rw [hrem]
    refine brD (fun h2 => ⟨rfl, (decide_eq_true (.inl (by omega))).symm⟩) fun h2 => ?_
    refine ldAt0 H 5 rfl ((acts[k].kind.toNat : Nat) : Int) rfl (nz (by decide) ?_)
    rw [hrem]
    refine brD (fun h4 => ldAt H 5 rfl acts[k].steps rfl (let_ ⟨rfl, ?_⟩)) fun h4 => ⟨rfl, (decide_eq_false (by omega)).symm⟩
    rw [decide_eq_decide]
    omega
end Go.Proofs.Ytnognoiaakiepaa
