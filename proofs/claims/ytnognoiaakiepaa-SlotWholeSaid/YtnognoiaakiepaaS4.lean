/-
  Layer 33 (slot): the laws SlotReads and SlotWhole over the heap alone.
-/
import Derived.Test.YtnognoiaakiepaaS3
namespace Go.Proofs.Ytnognoiaakiepaa
open Go

theorem atS_eq (a b : List UInt8) : atS a b = if (wholeS a).2 < (wholeS b).2 then 0 else if 0 < (wholeS a).2 then 1 else 0 := by
  unfold atS newestS
  by_cases h : (wholeS a).2 < (wholeS b).2
  · rw [if_pos h, if_pos h]
    simp only
    rw [if_pos (by omega)]
  · rw [if_neg h, if_neg h]; rfl
theorem newN_eq (a b : List UInt8) : (newestS a b).2.2 = if (wholeS a).2 < (wholeS b).2 then (wholeS b).2 else (wholeS a).2 := by
  unfold newestS
  split <;> rfl
theorem twoS_le {a b t : List UInt8} {N : Nat} (k : Nat) (ha : a.length ≤ N) (hb : b.length ≤ N) (ht : t.length ≤ N) : (twoS k a b t).1.length ≤ N ∧ (twoS k a b t).2.length ≤ N := by
  unfold twoS
  split
  · exact ⟨ht, hb⟩
  · exact ⟨ha, ht⟩
theorem selS_le {a b : List UInt8} {N : Nat} (k : Nat) (ha : a.length ≤ N) (hb : b.length ≤ N) : (selS k a b).length ≤ N := by
  unfold selS
  split <;> assumption
theorem At.sub {h0 h : Heap} {L L' : List Res} (H : At h0 h L) (s : L'.Sublist L) : At h0 h L' := ⟨H.ext, fun r hr => H.ok r (s.subset hr), fun r hr => H.lo r (s.subset hr), H.sep.sublist s⟩
theorem At.only {h0 h : Heap} {L F : List Res} (H : At h0 h (L ++ F)) : At h0 h (L ++ []) := by rw [List.append_nil]; exact H.sub (List.sublist_append_left ..)
def ArgA4 (h : Heap) (s : Sl) (l : List AS) : Prop := ArgA h s l ∧ s.n ≤ 140737488351232
set_option maxRecDepth 100000 in
set_option maxHeartbeats 1000000 in
theorem law33_SlotReads_ok {l c : Sl} {hB : Heap} {acts : List AS} {cs : List UInt8} (w0 : ArgA4 hB l acts) (w1 : Arg hB 1 c (cB cs) ∧ c.below hB.size ∧ c.c ≤ 140737488351232) :
    C_law33_SlotReads l c hB fun r h' => r = true ∧ Ext hB.size hB h' := by
  refine A_law33_SlotReads ?_
  unfold S_law33_SlotReads
  obtain ⟨⟨A, hA⟩, hlm⟩ := w0
  have C := w1.1.rd
  have hn := rdn A
  have hcn := rd_b C
  refine law33_fixed_ok fun h0 e0 => brN rfl ?_
  refine law33_few_ok (At.of_ext e0) A hA (fun h1 v H hv => ?_) (by omega)
  cases v with
  | false => exact brY rfl ⟨rfl, H.ext⟩
  | true =>
  obtain ⟨hl40, h200⟩ := hv rfl
  refine brN rfl (brD (fun _ => ⟨rfl, H.ext⟩) fun hc2 => ?_)
  refine slot_New_ok H fun h2 p z H => ?_
  refine loop1 (s1 := .one (.int .i64)) (fun (x : Int) h3 => ∃ (k : Nat) (z : PS) (xa xb : List UInt8), x = k ∧ k ≤ acts.length ∧ At hB h3 (pairL p z xa xb ++ []) ∧ xa.length ≤ 5000 ∧ xb.length ≤ 5000) (fun (x : Int) _ => (acts.length - x).toNat)
    ⟨0, z, [], [], rfl, Nat.zero_le _, H, Nat.zero_le _, Nat.zero_le _⟩ fun _ (x : Int) h3 hI => ?_
  obtain ⟨k, z, xa, xb, rfl, hk, H, la, lb⟩ := hI
  refine brD (fun hc => ?_) fun hc => ?_
  · have hk2 : k < acts.length := by omega
    have hx := hA _ (List.getElem_mem hk2)
    have hxn := rd_b hx
    have hx2 := h200 _ (List.getElem_mem hk2)
    refine ixR (H.arg A) k rfl hk2 fun e he => ?_
    repeat (first | with_reducible refine nn ?_ | with_reducible refine let_ ?_ | with_reducible refine brSome ?_ | with_reducible refine brF ?_ | with_reducible refine brT ?_ | ((with_reducible apply ldAt H 0); exact rfl; exact rfl) | ((with_reducible apply ldAt0 H 0); exact rfl; exact rfl) | ((with_reducible apply ldR (H.arg A)); assumption; (case hk => assumption); exact rfl) | ((with_reducible apply ldR0 (H.arg A)); assumption; (case hk => assumption); exact rfl) | ((with_reducible apply stAt H 0); exact rfl; exact rfl; intro h H) | ((with_reducible apply stAt0 H 0); exact rfl; exact rfl; intro h H) | ((with_reducible apply allocAt H); intro h b H) | ((with_reducible refine ⟨?_, ?_⟩); first | ((with_reducible apply ldAt H 0); exact rfl; exact rfl; exact rfl) | ((with_reducible apply ldAt0 H 0); exact rfl; exact rfl; exact rfl)))
    have hk8 := acts[k].kind.toNat_lt
    have hrem : divV .rem .u8 (acts[k].kind.toNat : Int) 5 = ((acts[k].kind.toNat % 5 : Nat) : Int) := by rw [rem_nonneg (by omega)]; omega
    refine nz (by decide) ?_
    rw [hrem]
    rename Nat => p1
    rename Heap => hw
    have H : At hB hw (pairL p z xa xb ++ [.blk p1 98 [.int .u8 (acts[k].kind.toNat : Nat), .slice acts[k].s.a acts[k].s.n acts[k].s.c, .int .i64 acts[k].steps, .int .i64 acts[k].keep, .int .i64 acts[k].at_, .int .u8 (acts[k].by_.toNat : Nat)]]) := H.mv 1 5
    generalize hK : acts[k].kind.toNat % 5 = K at *
    have hK5 : K < 5 := by omega
    refine join0 (fun h' => ∃ (z : PS) (xa xb : List UInt8), At hB h' (pairL p z xa xb ++ []) ∧ xa.length ≤ 5000 ∧ xb.length ≤ 5000) (fun _ h' hJ => ?_) ?_
    · obtain ⟨z, xa, xb, H, la, lb⟩ := hJ
      refine slot_Bytes_ok H (by omega) (by omega) 0 (by decide) rfl fun r5 h5 o5 f5 e5 => ?_
      have H := H.ext' e5
      refine slot_Bytes_ok H (by omega) (by omega) 1 (by decide) rfl fun r6 h6 o6 f6 e6 => ?_
      have H := H.ext' e6
      have o5 : Own h6 1 r5 (cB xa) := o5.ext' e6
      have o6 : Own h6 1 r6 (cB xb) := o6
      refine ref33_Newest_ok o5.rd o5.2.1 (by omega) o6.rd o6.2.1 (by omega) fun h7 e7 => ?_
      have H := H.ext' e7
      refine slot_Read_ok H (by omega) (by omega) fun r8 h8 o8 f8 e8 => ?_
      have H := H.ext' e8
      refine toS BT o8.rd (brN (by simp) (brN (by simp) ?_))
      have fin : (∃ (k_1 : Nat) (z : PS) (xa xb : List UInt8), IntKind.i64.wrap ((k : Int) + 1) = k_1 ∧ k_1 ≤ acts.length ∧ At hB h8 (pairL p z xa xb ++ []) ∧ xa.length ≤ 5000 ∧ xb.length ≤ 5000) ∧ ((acts.length : Int) - IntKind.i64.wrap ((k : Int) + 1)).toNat < ((acts.length : Int) - (k : Int)).toNat := by
        rw [w64 (by omega) (by omega)]
        exact ⟨⟨k + 1, z, xa, xb, by omega, by omega, H, la, lb⟩, by omega⟩
      by_cases hz : (newestS xa xb).2.2 = 0
      · rw [hz]
        exact brN rfl (brY rfl (brN rfl fin))
      · rw [if_neg hz]
        refine brN ?_ (brN ?_ fin)
        · have : decide (((newestS xa xb).2.2 : Int) > 0) = true := decide_eq_true (by omega)
          rw [this]; rfl
        · rw [beq_eq_false_iff_ne]; omega
    · have inst : ∀ (F : List Res) h' z' a' b', At hB h' (pairL p z' a' b' ++ F) → a'.length ≤ 5000 → b'.length ≤ 5000 → ∃ (z : PS) (xa xb : List UInt8), At hB h' (pairL p z xa xb ++ []) ∧ xa.length ≤ 5000 ∧ xb.length ≤ 5000 := fun F h' z' a' b' H la lb => ⟨z', a', b', H.only, la, lb⟩
      refine join1 (s1 := .one .bool) (fun (x : Bool) h' => x = decide (K < 2) ∧ h' = hw) (fun _ (x : Bool) h' hJ => ?_) ?_
      · obtain ⟨rfl, rfl⟩ := hJ
        refine brD (fun hk2' => ?_) fun hk2' => ?_
        · refine ldAt H 5 rfl acts[k].s rfl ?_
          have hsb := slotB_length ((newestS xa xb).2.2 + 1) acts[k].xs
          refine slot_Install_ok (F := [_]) H (H.arg hx) (by omega) (by omega) (fun _ => inst _ _ _ _ _ H la lb) (fun _ _ h' H => inst _ _ _ _ _ H la lb) fun _ _ h' z' H => ?_
          have := twoS_le (a := xa) (b := xb) (t := slotB ((newestS xa xb).2.2 + 1) acts[k].xs) (N := 5000) (atS xa xb) la lb (by omega)
          exact inst _ _ _ _ _ H this.1 this.2
        · refine join1 (s1 := .one .bool) (fun (x : Bool) h'' => x = decide (K < 4) ∧ h'' = h') (fun _ (x : Bool) h'' hJ => ?_) ?_
          · obtain ⟨rfl, rfl⟩ := hJ
            refine brD (fun hk4 => ?_) fun hk4 => ?_
            · refine ldAt H 5 rfl acts[k].s rfl (ldAt H 5 rfl acts[k].steps rfl (ldAt H 5 rfl acts[k].keep rfl (ldAt H 5 rfl acts[k].at_ rfl (ldAt H 5 rfl ((acts[k].by_.toNat : Nat) : Int) rfl ?_))))
              have hsb := slotB_length ((newestS xa xb).2.2 + 1) acts[k].xs
              refine slot_Torn_ok (y := acts[k].by_) (F := [_]) H (H.arg hx) rfl (by omega) (by omega) (fun _ => inst _ _ _ _ _ H la lb) (fun _ _ h' H => inst _ _ _ _ _ H la lb) fun _ _ h' z' H => ?_
              have := twoS_le (a := xa) (b := xb) (N := 5000) (atS xa xb) la lb (tornS_le (b := selS (atS xa xb) xa xb) (f := slotB ((newestS xa xb).2.2 + 1) acts[k].xs) acts[k].steps acts[k].keep acts[k].at_ acts[k].by_ (selS_le _ la lb) (by omega))
              exact inst _ _ _ _ _ H this.1 this.2
            · refine brY (by rw [beq_iff_eq]; omega) ?_
              refine ldAt H 5 rfl ((acts[k].by_.toNat : Nat) : Int) rfl (nz (by decide) (ldAt H 5 rfl acts[k].at_ rfl (ldAt H 5 rfl ((acts[k].by_.toNat : Nat) : Int) rfl ?_)))
              refine slot_Spoil_ok (c := acts[k].by_) (F := [_]) H rfl (fun _ => inst _ _ _ _ _ H la lb) (fun _ _ _ _ => inst _ _ _ _ _ H la lb) fun k2 j _ _ _ _ h' z' H => ?_
              have := twoS_le (a := xa) (b := xb) (N := 5000) k2 la lb (by rw [flp_length]; exact selS_le k2 la lb : (flp (selS k2 xa xb) j acts[k].by_).length ≤ 5000)
              exact inst _ _ _ _ _ H this.1 this.2
          · refine br beq_iff_eq (fun h2 => ⟨?_, rfl⟩) fun h2 => ⟨?_, rfl⟩
            · rw [Bool.eq_iff_iff]; simp only [beq_iff_eq, decide_eq_true_eq]; omega
            · rw [Bool.eq_iff_iff]; simp only [beq_iff_eq, decide_eq_true_eq]; omega
      · refine br beq_iff_eq (fun h2 => ⟨?_, rfl⟩) fun h2 => ⟨?_, rfl⟩
        · rw [Bool.eq_iff_iff]; simp only [beq_iff_eq, decide_eq_true_eq]; omega
        · rw [Bool.eq_iff_iff]; simp only [beq_iff_eq, decide_eq_true_eq]; omega
  · refine slot_Bytes_ok H (by omega) (by omega) 0 (by decide) rfl fun r5 h5 o5 f5 e5 => ?_
    have H := H.ext' e5
    refine toS BT o5.rd ?_
    refine slot_Bytes_ok H (by omega) (by omega) 1 (by decide) rfl fun r6 h6 o6 f6 e6 => ?_
    have H := H.ext' e6
    refine ⟨toS BT (o5.rd.ext' e6) rfl, toS BT o6.rd ?_⟩
    show ToB Try.prog _ _ (strB xa) h6 _
    refine toB BT (by rw [strB_size]; omega) fun s7 h7 o7 n7 e7 f7 => ?_
    have H := H.ext' e7
    rw [strB_data] at o7
    refine ref33_Whole_ok o7.rd o7.2.1 (by omega) fun h8 e8 => ?_
    have H := H.ext' e8
    show ToB Try.prog _ _ (strB xb) h8 _
    refine toB BT (by rw [strB_size]; omega) fun s9 h9 o9 n9 e9 f9 => ?_
    have H := H.ext' e9
    rw [strB_data] at o9
    refine ref33_Whole_ok o9.rd o9.2.1 (by omega) fun h10 e10 => ?_
    have H := H.ext' e10
    have hN := newN_eq xa xb
    have hat := atS_eq xa xb
    have hNe : (if ((wholeS xb).2 : Int) > ((wholeS xa).2 : Int) then ((wholeS xb).2 : Int) else ((wholeS xa).2 : Int)) = (((newestS xa xb).2.2 : Nat) : Int) := by
      rw [hN]; split <;> split <;> omega
    have eqs : ∀ {h' z' x y}, At hB h' (pairL p z' x y ++ []) → x.length ≤ 5000 → y.length ≤ 5000 → ∀ (i : Nat), i < 2 → ∀ (K : Sl → Heap → Prop), (∀ r h'', RdS h'' 1 r (cB (selS i x y)) → At hB h'' (pairL p z' x y ++ []) → K r h'') → C_slot_Pair_Bytes (some ⟨p, 0, none⟩) (i : Int) h' K := fun H lx ly i hi K hK =>
      slot_Bytes_ok H (by omega) (by omega) i hi rfl fun r h'' o f e => hK r h'' o.rd (H.ext' e)
    have hle := (newestS_le xa xb).2.1
    refine slot_Install_ok H (H.arg C) (by omega) (by omega) (fun hl => by omega) (fun _ hfull h11 H => ?_) fun _ hnf h11 z' H => ?_
    · rw [hNe]
      refine brY (decide_eq_true (by omega)) ?_
      refine join1 (s1 := .one .bool) (fun (x : Bool) h' => x = true ∧ Ext hB.size hB h') (fun _ (x : Bool) h' hJ => ?_) ?_
      · exact hJ
      · refine brY rfl (eqs H la lb 0 (by decide) _ fun r h12 o H => toS BT o (brY (by simp [selS]) ?_))
        exact eqs H la lb 1 (by decide) _ fun r h13 o H => toS BT o ⟨by simp [selS], H.ext⟩
    · rw [hNe]
      refine brN (decide_eq_false (by omega)) (brN rfl ?_)
      rw [w64 (by omega) (by omega)]
      refine ref33_Bytes_ok (k := (newestS xa xb).2.2 + 1) (by omega) (H.arg C) (by omega) fun h12 e12 => ?_
      have H := H.ext' e12
      have hsb := slotB_length ((newestS xa xb).2.2 + 1) cs
      generalize slotB ((newestS xa xb).2.2 + 1) cs = want at *
      have h2 := twoS_le (a := xa) (b := xb) (t := want) (N := 5000) (atS xa xb) la lb (by omega)
      refine brD (fun hge => brD (fun hpos => ?_) fun hpos => ?_) fun hge => ?_
      · rw [if_neg (by omega), if_pos (by omega)] at hat
        rw [hat] at H
        refine join1 (s1 := .one .bool) (fun (x : Bool) h' => x = true ∧ Ext hB.size hB h') (fun _ (x : Bool) h' hJ => ?_) ?_
        · exact hJ
        · refine eqs (x := xa) (y := want) H la (by omega) 0 (by decide) _ fun r h13 o H => toS BT o (brY (by simp [selS]) ?_)
          exact eqs H la (by omega) 1 (by decide) _ fun r h14 o H => toS BT o ⟨by simp [selS], H.ext⟩
      · rw [if_neg (by omega), if_neg (by omega)] at hat
        rw [hat] at H
        refine eqs (x := want) (y := xb) H (by omega) lb 0 (by decide) _ fun r h13 o H => toS BT o (brY (by simp [selS]) ?_)
        exact eqs H (by omega) lb 1 (by decide) _ fun r h14 o H => toS BT o ⟨by simp [selS], H.ext⟩
      · rw [if_pos (by omega)] at hat
        rw [hat] at H
        refine eqs (x := want) (y := xb) H (by omega) lb 0 (by decide) _ fun r h13 o H => toS BT o (brY (by simp [selS]) ?_)
        exact eqs H (by omega) lb 1 (by decide) _ fun r h14 o H => toS BT o ⟨by simp [selS], H.ext⟩
section
open Go.ChangeShapes Go.WideShapes
variable {H : Type} {enc : TypeId × Value → H} {w : World} {b0 : Nat} {v : Value} {d : DataW H} {ps : List MemPlace}
set_option maxRecDepth 100000 in
theorem args_act33 (hval : Value.okWide Try.prog w .any b0 93 v) (hd : DataW.Trod enc Try.prog w 0 (fun _ => true) true 93 v d ps) (hf : Fits Try.prog 93 d) :
    ∃ (s : Sl) (acts : List AS), v = s.v ∧ ArgA4 w.heap s acts := by
  have he : ElS enc Try.prog w 98 fun cs => ∃ a : AS, cs = eAS.cells a ∧ RdS w.heap 1 a.s (cB a.xs) := by
    refine els_st Try.underlying98 fun cs hl hf => ?_
    have hl3 : cs.length = 6 := hl.trans (by kernel_rfl)
    match cs, hl3 with
    | [c0, c1, c2, c3, c4, c5], _ =>
      obtain ⟨_, _, h0, _⟩ := hf 0 _ rfl
      obtain ⟨_, x1, h1, f1⟩ := hf 1 _ rfl
      obtain ⟨_, _, h2, _⟩ := hf 2 _ rfl
      obtain ⟨_, _, h3, _⟩ := hf 3 _ rfl
      obtain ⟨_, _, h4, _⟩ := hf 4 _ rfl
      obtain ⟨_, _, h5, _⟩ := hf 5 _ rfl
      obtain ⟨n0, e0, w0⟩ := el_int Try.underlying5 _ _ _ h0
      obtain ⟨s, xs, e1, a1, w1⟩ := els_bytes Try.underlying22 Try.underlying5 (by kernel_rfl) (of_decide_eq_true (by kernel_rfl)) _ _ _ h1 f1
      obtain ⟨n2, e2, w2⟩ := el_int Try.underlying3 _ _ _ h2
      obtain ⟨n3, e3, w3⟩ := el_int Try.underlying3 _ _ _ h3
      obtain ⟨n4, e4, w4⟩ := el_int Try.underlying3 _ _ _ h4
      obtain ⟨n5, e5, w5⟩ := el_int Try.underlying5 _ _ _ h5
      have e0' : [c0] = [Value.int .u8 n0] := e0
      have e1' : [c1] = [s.v] := e1
      have e2' : [c2] = [Value.int .i64 n2] := e2
      have e3' : [c3] = [Value.int .i64 n3] := e3
      have e4' : [c4] = [Value.int .i64 n4] := e4
      have e5' : [c5] = [Value.int .u8 n5] := e5
      simp only [List.cons.injEq, and_true] at e0' e1' e2' e3' e4' e5'
      subst e0' e1' e2' e3' e4' e5'
      have hb := wf_u8 w0
      have hb5 := wf_u8 w5
      have hk : ((UInt8.ofNat n0.toNat).toNat : Int) = n0 := by simp; omega
      have hk5 : ((UInt8.ofNat n5.toNat).toNat : Int) = n5 := by simp; omega
      refine ⟨⟨UInt8.ofNat n0.toNat, s, xs, n2, n3, n4, UInt8.ofNat n5.toNat⟩, ?_, a1.rd⟩
      show [Value.int .u8 n0, s.v, .int .i64 n2, .int .i64 n3, .int .i64 n4, .int .u8 n5] = [Value.int .u8 ((UInt8.ofNat n0.toNat).toNat : Nat), .slice s.a s.n s.c, .int .i64 n2, .int .i64 n3, .int .i64 n4, .int .u8 ((UInt8.ofNat n5.toNat).toNat : Nat)]
      rw [hk, hk5]
  obtain ⟨s, css, h1, _, h3, h4, _, h8⟩ := args_sl (sz := 6) Try.underlying93 (by kernel_rfl) (by decide) (of_decide_eq_true (by kernel_rfl)) he hval hd hf
  obtain ⟨acts, h6, h7, _⟩ := cells_of eAS.cells _ fun c hc => (h3 c hc).2
  rw [h6] at h4
  exact ⟨s, acts, h1, ⟨h4.rd, h7⟩, Nat.le_trans h4.le h8⟩
set_option maxRecDepth 100000 in
theorem args_u8s (hval : Value.okWide Try.prog w .any b0 22 v) (hd : DataW.Trod enc Try.prog w 0 (fun _ => true) true 22 v d ps) (hf : Fits Try.prog 22 d) :
    ∃ (s : Sl) (xs : List UInt8), v = s.v ∧ Arg w.heap 1 s (cB xs) ∧ s.below w.heap.size ∧ s.c ≤ 140737488351232 :=
  args_bytes Try.underlying22 Try.underlying5 (by kernel_rfl) (of_decide_eq_true (by kernel_rfl)) hval hd hf
end
end Go.Proofs.Ytnognoiaakiepaa
