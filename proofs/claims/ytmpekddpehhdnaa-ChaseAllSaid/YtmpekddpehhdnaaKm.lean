/-
  Layer 14 (chase): what the document fixes; the arguments; ChasePlays and ChaseOldest over the heap alone.
-/
import Derived.Test.YtmpekddpehhdnaaKl
namespace Go.Proofs.Ytmpekddpehhdnaa
open Go

section
variable {h : Heap}
theorem chase_Begin_nil {R : Int → Int → Heap → Prop} (hR : R 0 1 h) : C_chase_Field_Begin none 1 h R := A_chase_Field_Begin hR
theorem chase_Settle_nil {R : Int → Heap → Prop} (hR : R 0 h) : C_chase_Field_Settle none 9 h R := by
  refine A_chase_Field_Settle ?_
  unfold S_chase_Field_Settle
  exact loop1 (s1 := .one (.int .i64)) (fun (x : Int) h1 => x = 0 ∧ h1 = h) (fun _ _ => 0) ⟨rfl, rfl⟩ fun _ (x : Int) h1 hI => by
    obtain ⟨rfl, rfl⟩ := hI
    exact hR
theorem law14_fixed_ok {R : Bool → Heap → Prop} (hR : ∀ h', Ext h.size h h' → R true h') : C_law14_fixed h R := by
  refine A_law14_fixed ?_
  unfold S_law14_fixed
  refine chase_New_ok (At.start h) (fun x => by omega) fun s hs h1 h8 h' d H => ?_
  obtain rfl : s = 2 := by omega
  have o0 := new_cok 2
  refine chase_Node_ok H o0 fun h' H => ?_
  have o1 : COk 2 1 kx1 := o0.node (id := 1) (by decide) 5 0
  rw [ky1] at H ⊢
  refine chase_Node_ok H o1 fun h' H => ?_
  have o2 : COk 2 2 kx2 := o1.node (id := 2) (by decide) 9 1
  rw [ky2] at H ⊢
  refine chase_Edge_ok H o2 fun h' H => ?_
  have o3 : COk 2 3 kx3 := o2.edge 1 2
  rw [ky3] at H
  refine chase_Edge_ok H o3 fun h' H => ?_
  have o4 : COk 2 4 kx4 := o3.edge 2 1
  rw [ky4] at H
  refine chase_Begin_ok H o4 (by decide) (by decide) fun h' H => ?_
  have o5 : COk 2 5 kx5 := o4.begin_ 1
  rw [ky5] at H ⊢
  refine chase_Flight_ok H (by decide) fun r1 h' H => ?_
  have hr1 := H.ats.n 0 rfl
  refine let_ ?_
  refine chase_Begin_ok H o5 (by decide) (by decide) fun h' H => ?_
  have o6 : COk 2 6 kx6 := o5.begin_ 2
  rw [ky6] at H ⊢
  refine chase_Flight_ok H (by decide) fun r2 h' H => ?_
  have hr2 := H.ats.n 0 rfl
  refine chase_Deliver_ok H o6 (by decide) (by decide) (by decide) fun h' H => ?_
  have o7 : COk 2 6 kx7 := o6.deliver 0
  rw [ky7] at H ⊢
  refine chase_Deliver_ok H o7 (by decide) (by decide) (by decide) fun h' H => ?_
  have o8 : COk 2 6 kx8 := o7.deliver 0
  rw [ky8] at H ⊢
  refine chase_Deliver_ok H o8 (by decide) (by decide) (by decide) fun h' H => ?_
  rw [ky9] at H ⊢
  refine chase_Victims_ok H o8 fun r3 h' H => ?_
  have hr3 := H.ats.n 0 rfl
  refine chase_Begin_nil ?_
  refine brY rfl (brY rfl (brY rfl (brY rfl ?_)))
  refine brY (by rw [hr1]; rfl) (brY rfl (brY (by rw [hr2]; rfl) ?_))
  have A := H.ats
  refine ixAt (E := eCP) (l := kx6.fl) A 1 rfl 0 rfl (by decide) fun e he => ?_
  refine ldEl (E := eCP) (l := kx6.fl) (j := 3) A 1 rfl he (by decide) (1 : Int) rfl (brY rfl ?_)
  refine ixAt (E := eCP) (l := kx6.fl) A 1 rfl 0 rfl (by decide) fun e he => ?_
  refine ldEl0 (E := eCP) (l := kx6.fl) A 1 rfl he (by decide) (2 : Int) rfl (brY rfl ?_)
  refine brY rfl (brY rfl (brY rfl (brY rfl (brY rfl (brY (by rw [hr3]; rfl) ?_)))))
  refine ixAt (E := eNum) (l := kx8.vs) A 0 rfl 0 rfl (by decide) fun e he => ?_
  refine ldEl0 (E := eNum) (l := kx8.vs) A 0 rfl he (by decide) (2 : Int) rfl (brY rfl ?_)
  refine chase_New_ok A (fun _ => ?_) fun s hs h1 _ => by omega
  refine brY rfl (brY rfl (chase_Settle_nil (brY rfl ?_)))
  refine chase_Node_ok H o8 fun h' H => ?_
  rw [ky10] at H ⊢
  refine brY rfl ?_
  refine chase_Edge_ok H o8 fun h' H => ?_
  rw [ky11] at H ⊢
  exact hR _ H.ats.ext
end
/-! ## Arguments -/
def eU8 : Enc Int 1 := ⟨fun a => [.int .u8 a], fun _ => rfl, by decide, fun x u hu => by
  simp only [List.mem_cons, List.not_mem_nil, or_false] at hu
  rcases hu with rfl; rfl⟩
section
open Go.ChangeShapes Go.WideShapes
variable {H : Type} {enc : TypeId × Value → H} {w : World} {b0 : Nat} {v : Value} {d : DataW H} {ps : List MemPlace}
def ArgAct14 (hB : Heap) (s : Sl) (acts : List KAct) : Prop := RdS hB 4 s (eKAct.fl acts) ∧ ∀ a ∈ acts, (0 ≤ a.kind ∧ a.kind ≤ 255) ∧ a.a ≤ 9223372036854775807
set_option maxRecDepth 100000 in
theorem args_act14 (hval : Value.okWide Try.prog w .any b0 90 v) (hd : DataW.Trod enc Try.prog w 0 (fun _ => true) true 90 v d ps) (hf : Fits Try.prog 90 d) :
    ∃ (s : Sl) (acts : List KAct), v = s.v ∧ ArgAct14 w.heap s acts := by
  have he : ElS enc Try.prog w 97 fun cs => ∃ a : KAct, cs = eKAct.cells a ∧ ((0 ≤ a.kind ∧ a.kind ≤ 255) ∧ a.a ≤ 9223372036854775807) := by
    refine els_st Try.underlying97 fun cs hl hf => ?_
    have hl3 : cs.length = 4 := hl.trans (by kernel_rfl)
    match cs, hl3 with
    | [c0, c1, c2, c3], _ =>
      obtain ⟨_, _, h0, _⟩ := hf 0 _ rfl
      obtain ⟨_, _, h1, _⟩ := hf 1 _ rfl
      obtain ⟨_, _, h2, _⟩ := hf 2 _ rfl
      obtain ⟨_, _, h3, _⟩ := hf 3 _ rfl
      obtain ⟨n0, e0, w0⟩ := el_int Try.underlying5 _ _ _ h0
      obtain ⟨n1, e1, w1⟩ := el_int Try.underlying3 _ _ _ h1
      obtain ⟨n2, e2, _⟩ := el_int Try.underlying3 _ _ _ h2
      obtain ⟨n3, e3, _⟩ := el_int Try.underlying3 _ _ _ h3
      have e0' : [c0] = [Value.int .u8 n0] := e0
      have e1' : [c1] = [Value.int .i64 n1] := e1
      have e2' : [c2] = [Value.int .i64 n2] := e2
      have e3' : [c3] = [Value.int .i64 n3] := e3
      simp only [List.cons.injEq, and_true] at e0' e1' e2' e3'
      subst e0' e1' e2' e3'
      exact ⟨⟨n0, n1, n2, n3⟩, rfl, wf_u8 w0, (wf_in64 w1).2⟩
  obtain ⟨s, css, h1, _, h3, h4, _⟩ := args_sl (sz := 4) Try.underlying90 (by kernel_rfl) (by decide) (of_decide_eq_true (by kernel_rfl)) he hval hd hf
  obtain ⟨acts, h6, h7, _⟩ := cells_of eKAct.cells _ fun c hc => (h3 c hc).2
  rw [h6] at h4
  exact ⟨s, acts, h1, h4.rd, h7⟩
set_option maxRecDepth 100000 in
theorem args_edges (hval : Value.okWide Try.prog w .any b0 23 v) (hd : DataW.Trod enc Try.prog w 0 (fun _ => true) true 23 v d ps) (hf : Fits Try.prog 23 d) :
    ∃ (s : Sl) (es : List CE), v = s.v ∧ RdS w.heap 2 s (eCE.fl es) := by
  have he : ElS enc Try.prog w 30 fun cs => ∃ a : CE, cs = eCE.cells a ∧ True := by
    refine els_st Try.underlying30 fun cs hl hf => ?_
    have hl3 : cs.length = 2 := hl.trans (by kernel_rfl)
    match cs, hl3 with
    | [c0, c1], _ =>
      obtain ⟨_, _, h0, _⟩ := hf 0 _ rfl
      obtain ⟨_, _, h1, _⟩ := hf 1 _ rfl
      obtain ⟨n0, e0, _⟩ := el_int Try.underlying3 _ _ _ h0
      obtain ⟨n1, e1, _⟩ := el_int Try.underlying3 _ _ _ h1
      have e0' : [c0] = [Value.int .i64 n0] := e0
      have e1' : [c1] = [Value.int .i64 n1] := e1
      simp only [List.cons.injEq, and_true] at e0' e1'
      subst e0' e1'
      exact ⟨⟨n0, n1⟩, rfl, trivial⟩
  obtain ⟨s, css, h1, _, h3, h4, _⟩ := args_sl (sz := 2) Try.underlying23 (by kernel_rfl) (by decide) (of_decide_eq_true (by kernel_rfl)) he hval hd hf
  obtain ⟨es, h6, _, _⟩ := cells_of eCE.cells _ fun c hc => (h3 c hc).2
  rw [h6] at h4
  exact ⟨s, es, h1, h4.rd⟩
set_option maxRecDepth 100000 in
theorem args_u8s (hval : Value.okWide Try.prog w .any b0 22 v) (hd : DataW.Trod enc Try.prog w 0 (fun _ => true) true 22 v d ps) (hf : Fits Try.prog 22 d) :
    ∃ (s : Sl) (xs : List Int), v = s.v ∧ (RdS w.heap 1 s (eU8.fl xs) ∧ ∀ x ∈ xs, 0 ≤ x ∧ x ≤ 255) := by
  obtain ⟨s, css, h1, _, h3, h4, _⟩ := args_sl (sz := 1) Try.underlying22 (by kernel_rfl) (by decide) (of_decide_eq_true (by kernel_rfl)) (els_int Try.underlying5) hval hd hf
  obtain ⟨xs, h6, h7, _⟩ := cells_of eU8.cells (fun x => 0 ≤ x ∧ x ≤ 255) fun c hc => by obtain ⟨_, b, hb, hw⟩ := h3 c hc; exact ⟨b, hb, wf_u8 hw⟩
  rw [h6] at h4
  exact ⟨s, xs, h1, h4.rd, h7⟩
end
/-! ## ChasePlays -/
def emptyRef (n : Nat) : List Value := [.int .i64 (n : Int), .slice none 0 0, .slice none 0 0, .slice none 0 0, .slice none 0 0, .slice none 0 0]
theorem BothAt.start {hB h : Heap} {d s : Nat} {t : TypeId} {K : Addr → Heap → Prop} (H : FldAt hB h d s 0 kNew []) (hk : ∀ h' dr, BothAt hB h' d dr s 0 kNew [] → K ⟨dr, 0, none⟩ h') : Alloc h (.cells (emptyRef s).toArray t) K := by
  obtain ⟨X, H, back⟩ := H.raw
  refine allocAt ((((H.nil 1).nil 4).nil 3).nil 2 |>.nil 4) fun h' dr H => hk h' dr ⟨t, ⟨none, 0, 0⟩, ⟨none, 0, 0⟩, ⟨none, 0, 0⟩, ⟨none, 0, 0⟩, ⟨none, 0, 0⟩, [], [], ?_, Nat.le_refl _, Nat.le_refl _, back h' _ H⟩
  refine ⟨(fun e he => by cases he), List.Pairwise.nil, (fun n hn => by cases hn), fun x a r h1 => ⟨fun ⟨s, hs, _⟩ => (by cases hs), fun h2 => ?_⟩⟩
  have h2 : r ≤ 0 := h2
  omega
set_option maxHeartbeats 1600000 in
theorem law14_ChasePlays_ok {sites : Int} {l : Sl} {hB : Heap} {acts : List KAct} (_w0 : -9223372036854775808 ≤ sites ∧ sites ≤ 9223372036854775807) (w1 : ArgAct14 hB l acts) : C_law14_ChasePlays sites l hB fun r h' => r = true ∧ Ext hB.size hB h' := by
  refine A_law14_ChasePlays ?_
  unfold S_law14_ChasePlays
  obtain ⟨A, hk⟩ := w1
  have hn := rdn A
  refine law14_fixed_ok fun h1 e1 => brN rfl (brD (fun _ => ⟨rfl, e1⟩) fun hc => ?_)
  refine chase_New_ok (At.of_ext e1) (fun hbad => ?_) fun s hs h1' h8' h2 d H => ?_
  · refine join1 (s1 := .one .bool) (fun (b : Bool) h3 => b = true ∧ h3 = h1) (fun _ (b : Bool) h3 hJ => ?_) ?_
    · obtain ⟨rfl, rfl⟩ := hJ
      exact brT ⟨rfl, e1⟩
    · exact brD (fun _ => ⟨rfl, rfl⟩) fun h4 => ⟨decide_eq_true (by omega), rfl⟩
  subst hs
  refine join1 (s1 := .one .bool) (fun (b : Bool) h3 => b = false ∧ h3 = h2) (fun _ (b : Bool) h3 hJ => ?_) (brN (decide_eq_false (by omega)) ⟨decide_eq_false (by omega), rfl⟩)
  obtain ⟨rfl, rfl⟩ := hJ
  refine brF (BothAt.start H fun h4 dr H => ?_)
  refine loop1 (s1 := .one (.int .i64)) (fun (x : Int) h5 => ∃ (j : Nat) (C : CF), x = j ∧ j ≤ acts.length ∧ BothAt hB h5 d dr s j C [] ∧ COk s j C ∧ C.fl.length ≤ 64 * j) (fun (x : Int) _ => (acts.length - x).toNat)
    ⟨0, kNew, rfl, Nat.zero_le _, H, new_cok s, Nat.le_refl _⟩ fun _ (x : Int) h5 hI => ?_
  obtain ⟨j, C, rfl, hj, H, ho, hfl⟩ := hI
  refine brD (fun hc2 => ?_) fun hc2 => ⟨rfl, H.ext⟩
  have hj2 : j < acts.length := by omega
  obtain ⟨hkd, hida⟩ := hk _ (List.getElem_mem hj2)
  obtain ⟨ty, sN, sE, sH, sF, sV, E, Hd, hr, hE, hH, HF⟩ := H
  obtain ⟨X, H, back⟩ := HF.raw
  refine ixR (H.arg A) j rfl hj2 fun e he => ?_
  repeat (first | with_reducible refine nn ?_ | with_reducible refine let_ ?_ | with_reducible refine brSome ?_ | with_reducible refine brF ?_ | with_reducible refine brT ?_ | ((with_reducible apply ldAt H 0); exact rfl; exact rfl) | ((with_reducible apply ldAt0 H 0); exact rfl; exact rfl) | ((with_reducible apply ldR (H.arg A)); assumption; (case hk => assumption); exact rfl) | ((with_reducible apply ldR0 (H.arg A)); assumption; (case hk => assumption); exact rfl) | ((with_reducible apply stAt H 0); exact rfl; exact rfl; intro h H) | ((with_reducible apply stAt0 H 0); exact rfl; exact rfl; intro h H) | ((with_reducible apply allocAt H); intro h b H) | ((with_reducible refine ⟨?_, ?_⟩); first | ((with_reducible apply ldAt H 0); exact rfl; exact rfl; exact rfl) | ((with_reducible apply ldAt0 H 0); exact rfl; exact rfl; exact rfl)))
  have H := back _ (_ :: _) H
  have H : BothAt hB _ d dr s j C [.blk b 97 (eKAct.cells acts[j])] := ⟨ty, sN, sE, sH, sF, sV, E, Hd, hr, hE, hH, H.perm (by rw [List.append_nil]; exact (List.perm_append_singleton ..).symm)⟩
  refine law14_do_ok (a := acts[j]) H ho (by omega) (by omega) (by omega) hkd.1 fun h6 H => brN rfl ?_
  have ho' := ho.act hida
  have hl' := act_len ho acts[j]
  have H := H.sub (F' := []) (List.nil_sublist _)
  generalize kAct s C acts[j] = C' at *
  obtain ⟨ty, sN, sE, sH, sF, sV, E, Hd, hr, hE, hH, H⟩ := H
  refine nn (ldAt (j := 4) H.ats 0 rfl sF rfl ?_)
  refine chase_Flight_ok H (by omega) fun r3 h7 H => ?_
  refine ⟨ldAt (j := 4) H.ats 1 rfl sF rfl rfl, ?_⟩
  refine law14_sameP_ok (H.ats.rdo 0 rfl) (H.ats.rdo 5 rfl) (by omega) (brN rfl ?_)
  refine nn (ldAt (j := 5) H.ats 1 rfl sV rfl ?_)
  refine chase_Victims_ok H ho' fun r5 h8 H => ?_
  refine ⟨ldAt (j := 5) H.ats 2 rfl sV rfl rfl, ?_⟩
  have hvl := ho'.vlen
  refine law14_sameI_ok (H.ats.rdo 0 rfl) (H.ats.rdo 7 rfl) (by omega) (brN rfl ?_)
  rw [w64 (by omega) (by omega)]
  exact ⟨⟨j + 1, C', by omega, by omega, ⟨ty, sN, sE, sH, sF, sV, E, Hd, hr, hE, hH, H.sub ((List.sublist_cons_self ..).trans (List.sublist_cons_self ..))⟩, ho', by omega⟩, by omega⟩
end Go.Proofs.Ytmpekddpehhdnaa
