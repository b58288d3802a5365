/-
  Layer 34 (twopc): TwopcPlays over the heap alone.
-/
import Derived.Test.YtmpekddpehhdnaaTm
import Derived.Test.YtmpekddpehhdnaaTr
namespace Go.Proofs.Ytmpekddpehhdnaa
open Go

section
variable {hB h : Heap} {F : List Res} {d : Nat} {ty : TypeId} {s1 s2 w s3 s4 s5 : Sl} {D : TD} {vl al : List Int} {N : Nat} {ws : List Bool}
theorem law34_want_ok {kd n : Int} {R : Int → Heap → Prop} (H : At hB h (refL d ty s1 s2 w s3 s4 s5 D vl al ++ F)) (W : RdS hB 1 w (eBool.fl ws)) (hw : D.l.map (·.willing) = ws) (ho : TOk N D) (hi : TInv D) (hN : N + 1 ≤ 1000000) (V : VR N D vl al) (hk : 0 ≤ kd)
    (hR : ∀ h', RefAt hB h' d w (N + 1) (tActM D kd n).1 F → R (tActM D kd n).2 h') : C_law34_want (some ⟨d, 0, none⟩) (kd, n, ()) h R := by
  refine A_law34_want ?_
  unfold S_law34_want
  have hwl : ws.length = D.l.length := by rw [← hw, List.length_map]
  have hl := ho.fl
  have hst : ∀ k, (hk : k < D.l.length) → 0 ≤ D.l[k].state := fun k hk => by have := hi.st k hk; rw [pt_get hk] at this; exact this.1
  repeat (first | with_reducible refine nn ?_ | with_reducible refine let_ ?_ | with_reducible refine brSome ?_ | with_reducible refine brF ?_ | with_reducible refine brT ?_ | ((with_reducible apply ldAt H 0); exact rfl; exact rfl) | ((with_reducible apply ldAt0 H 0); exact rfl; exact rfl) | ((with_reducible apply stAt H 0); exact rfl; exact rfl; intro h H) | ((with_reducible apply stAt0 H 0); exact rfl; exact rfl; intro h H) | ((with_reducible apply allocAt H); intro h b H) | ((with_reducible refine ⟨?_, ?_⟩); first | ((with_reducible apply ldAt H 0); exact rfl; exact rfl; exact rfl) | ((with_reducible apply ldAt0 H 0); exact rfl; exact rfl; exact rfl)))
  refine nz (by decide) ?_
  rw [rem_nonneg hk]
  have H := H.mv 1 6
  have tmp : ∀ {h' : Heap} {D' : TD} {r : Res}, RefAt hB h' d w (N + 1) D' (r :: F) → RefAt hB h' d w (N + 1) D' F := fun ⟨ty, s1, s2, s3, s4, s5, vl, al, H, V⟩ => ⟨ty, s1, s2, s3, s4, s5, vl, al, (H.mv 6 1).tail, V⟩
  have same : ∀ {h : Heap} {D' : TD} {s5' : Sl} {r : Res}, D'.l.length = D.l.length → D'.votes = D.votes → D'.acks = D.acks → At hB h (refL d ty s1 s2 w s3 s4 s5' D' vl al ++ (r :: F)) → RefAt hB h d w (N + 1) D' F := fun a b c H => ⟨_, _, _, _, _, _, _, _, (H.mv 6 1).tail, V.of a b c⟩
  unfold tActM at hR
  refine br beq_iff_eq (fun hc => ?_) fun hc => ?_
  · rw [if_pos hc] at hR
    exact ref34_Begin_ok (F := _ :: F) H W hwl ho hN hi.bs V fun h' H => hR _ (tmp H)
  rw [if_neg hc] at hR
  refine br beq_iff_eq (fun hc => ?_) fun hc => ?_
  · rw [if_pos hc] at hR
    exact ref34_GiveUp_ok (F := _ :: F) H W hwl ho hN V fun h' H => hR _ (tmp H)
  rw [if_neg hc] at hR
  refine br beq_iff_eq (fun hc => ?_) fun hc => ?_
  · rw [if_pos hc] at hR
    repeat (first | with_reducible refine nn ?_ | with_reducible refine let_ ?_ | with_reducible refine brSome ?_ | with_reducible refine brF ?_ | with_reducible refine brT ?_ | ((with_reducible apply ldAt H 6); exact rfl; exact rfl) | ((with_reducible apply ldAt0 H 6); exact rfl; exact rfl) | ((with_reducible apply stAt H 6); exact rfl; exact rfl; intro h H) | ((with_reducible apply stAt0 H 6); exact rfl; exact rfl; intro h H) | ((with_reducible apply allocAt H); intro h b H) | ((with_reducible refine ⟨?_, ?_⟩); first | ((with_reducible apply ldAt H 6); exact rfl; exact rfl; exact rfl) | ((with_reducible apply ldAt0 H 6); exact rfl; exact rfl; exact rfl)))
    refine ref34_Drop_ok (F := _ :: F) H (by omega) (fun hb => ?_) fun k hi hk h2 s5' H2 => ?_
    · rw [onM_bad hb] at hR; exact hR _ (same rfl rfl rfl H)
    · subst hi; rw [onM_ok hk] at hR; exact hR _ (same rfl rfl rfl H2)
  rw [if_neg hc] at hR
  refine br beq_iff_eq (fun hc => ?_) fun hc => ?_
  · rw [if_pos hc] at hR
    repeat (first | with_reducible refine nn ?_ | with_reducible refine let_ ?_ | with_reducible refine brSome ?_ | with_reducible refine brF ?_ | with_reducible refine brT ?_ | ((with_reducible apply ldAt H 6); exact rfl; exact rfl) | ((with_reducible apply ldAt0 H 6); exact rfl; exact rfl) | ((with_reducible apply stAt H 6); exact rfl; exact rfl; intro h H) | ((with_reducible apply stAt0 H 6); exact rfl; exact rfl; intro h H) | ((with_reducible apply allocAt H); intro h b H) | ((with_reducible refine ⟨?_, ?_⟩); first | ((with_reducible apply ldAt H 6); exact rfl; exact rfl; exact rfl) | ((with_reducible apply ldAt0 H 6); exact rfl; exact rfl; exact rfl)))
    refine ref34_Double_ok (F := _ :: F) H (by omega) (fun hb => ?_) fun k hi hk h2 s5' H2 => ?_
    · rw [onM_bad hb] at hR; exact hR _ (same rfl rfl rfl H)
    · subst hi; rw [onM_ok hk] at hR; exact hR _ (same rfl rfl rfl H2)
  rw [if_neg hc] at hR
  refine br beq_iff_eq (fun hc => ?_) fun hc => ?_
  · rw [if_pos hc] at hR
    repeat (first | with_reducible refine nn ?_ | with_reducible refine let_ ?_ | with_reducible refine brSome ?_ | with_reducible refine brF ?_ | with_reducible refine brT ?_ | ((with_reducible apply ldAt H 6); exact rfl; exact rfl) | ((with_reducible apply ldAt0 H 6); exact rfl; exact rfl) | ((with_reducible apply stAt H 6); exact rfl; exact rfl; intro h H) | ((with_reducible apply stAt0 H 6); exact rfl; exact rfl; intro h H) | ((with_reducible apply allocAt H); intro h b H) | ((with_reducible refine ⟨?_, ?_⟩); first | ((with_reducible apply ldAt H 6); exact rfl; exact rfl; exact rfl) | ((with_reducible apply ldAt0 H 6); exact rfl; exact rfl; exact rfl)))
    exact ref34_Crash_ok (F := _ :: F) H W hwl V fun h' H => hR _ (tmp H)
  rw [if_neg hc] at hR
  refine br beq_iff_eq (fun hc => ?_) fun hc => ?_
  · rw [if_pos hc] at hR
    repeat (first | with_reducible refine nn ?_ | with_reducible refine let_ ?_ | with_reducible refine brSome ?_ | with_reducible refine brF ?_ | with_reducible refine brT ?_ | ((with_reducible apply ldAt H 6); exact rfl; exact rfl) | ((with_reducible apply ldAt0 H 6); exact rfl; exact rfl) | ((with_reducible apply stAt H 6); exact rfl; exact rfl; intro h H) | ((with_reducible apply stAt0 H 6); exact rfl; exact rfl; intro h H) | ((with_reducible apply allocAt H); intro h b H) | ((with_reducible refine ⟨?_, ?_⟩); first | ((with_reducible apply ldAt H 6); exact rfl; exact rfl; exact rfl) | ((with_reducible apply ldAt0 H 6); exact rfl; exact rfl; exact rfl)))
    exact ref34_Start_ok (F := _ :: F) H W hwl V fun h' H => hR _ (tmp H)
  rw [if_neg hc] at hR
  repeat (first | with_reducible refine nn ?_ | with_reducible refine let_ ?_ | with_reducible refine brSome ?_ | with_reducible refine brF ?_ | with_reducible refine brT ?_ | ((with_reducible apply ldAt H 6); exact rfl; exact rfl) | ((with_reducible apply ldAt0 H 6); exact rfl; exact rfl) | ((with_reducible apply stAt H 6); exact rfl; exact rfl; intro h H) | ((with_reducible apply stAt0 H 6); exact rfl; exact rfl; intro h H) | ((with_reducible apply allocAt H); intro h b H) | ((with_reducible refine ⟨?_, ?_⟩); first | ((with_reducible apply ldAt H 6); exact rfl; exact rfl; exact rfl) | ((with_reducible apply ldAt0 H 6); exact rfl; exact rfl; exact rfl)))
  refine ref34_Deliver_ok (F := _ :: F) H W hw hst ho hN V (fun hb => ?_) fun k hi hk h2 H2 => ?_
  · rw [onM_bad hb] at hR; exact hR _ (same rfl rfl rfl H)
  · subst hi; rw [onM_ok hk] at hR; exact hR _ (tmp H2)
end
theorem at_take9 {hB h : Heap} {d2 d : Nat} {ty2 ty : TypeId} {r1 r2 w r3 r4 r5 s1 s2 : Sl} {D : TD} {vl al : List Int} {rest : List Res} (H : At hB h (refL d2 ty2 r1 r2 w r3 r4 r5 D vl al ++ (dealL d ty s1 s2 D ++ rest))) : At hB h (refL d2 ty2 r1 r2 w r3 r4 r5 D vl al ++ (dealL d ty s1 s2 D ++ [])) := by
  have e : refL d2 ty2 r1 r2 w r3 r4 r5 D vl al ++ (dealL d ty s1 s2 D ++ []) = (refL d2 ty2 r1 r2 w r3 r4 r5 D vl al ++ (dealL d ty s1 s2 D ++ rest)).take 9 := rfl
  rw [e]
  exact ⟨H.ext, fun r hr => H.ok r (List.mem_of_mem_take hr), fun r hr => H.lo r (List.mem_of_mem_take hr), H.sep.sublist (List.take_sublist ..)⟩
set_option maxRecDepth 100000 in
set_option maxHeartbeats 3200000 in
theorem law34_TwopcPlays_ok {willing l : Sl} {hB : Heap} {ws : List Bool} {acts : List TAct} (w0 : RdS hB 1 willing (eBool.fl ws)) (w1 : RdS hB 2 l (eTAct.fl acts) ∧ ∀ a ∈ acts, 0 ≤ a.kind ∧ a.kind ≤ 255) :
    C_law34_TwopcPlays willing l hB fun r h' => r = true ∧ Ext hB.size hB h' := by
  refine A_law34_TwopcPlays ?_
  unfold S_law34_TwopcPlays
  obtain ⟨A, hk⟩ := w1
  have hn := rdn A
  have hwn := rdn w0
  refine law34_fixed_ok fun h1 e1 => brN rfl (brD (fun _ => ⟨rfl, e1⟩) fun hc => brD (fun _ => ⟨rfl, e1⟩) fun hc1 => ?_)
  refine twopc_New_ok (w0.ext' e1) (fun hb => ?_) fun g1 g7 h2 d ty s1 H => ?_
  · refine brD (fun _ => ⟨rfl, e1⟩) fun _ => brD (fun _ => ⟨rfl, e1⟩) fun _ => by omega
  refine brD (fun hx => by omega) fun _ => brD (fun hx => by omega) fun _ => ?_
  have H : At hB h2 (dealL d ty s1 ⟨none, 0, 0⟩ (tNewM ws) ++ [] ++ []) := (At.of_ext e1).join H
  refine ref34_New_ok (w0.ext' H.ext) g7 fun h3 d2 ty2 r1 r2 H2 => ?_
  have H := H.join H2
  have inv0 := tnew_inv g1
  refine loop1 (s1 := .one (.int .i64)) (fun (x : Int) h5 => ∃ (j : Nat) (D : TD) (s2 : Sl) (ty2 : TypeId) (r1 r2 r3 r4 r5 : Sl) (vl al : List Int), x = j ∧ j ≤ acts.length ∧ At hB h5 (refL d2 ty2 r1 r2 willing r3 r4 r5 D vl al ++ (dealL d ty s1 s2 D ++ [])) ∧ TOk j D ∧ TInv D ∧ TOpen D ∧ D.l.map (·.willing) = ws ∧ VR j D vl al) (fun (x : Int) _ => (acts.length - x).toNat)
    ⟨0, tNewM ws, _, _, _, _, _, _, _, _, _, rfl, Nat.zero_le _, H, tnew_ok g1 g7, inv0.1, inv0.2, tnew_will ws, fun i hi => ?_, fun i hi => ?_, Nat.le_refl _, Nat.le_refl _⟩ fun _ (x : Int) h5 hI => ?_
  · exact ⟨fun x => absurd x (by show ¬ (0 : Nat).testBit i = true; simp), fun x => by cases x⟩
  · exact ⟨fun x => absurd x (by show ¬ (0 : Nat).testBit i = true; simp), fun x => by cases x⟩
  obtain ⟨j, D, s2, ty2, r1, r2, r3, r4, r5, vl, al, rfl, hj, H, ho, hi, hopn, hw, V⟩ := hI
  refine brD (fun hc4 => ?_) fun hc4 => ⟨rfl, H.ext⟩
  have hj2 : j < acts.length := by omega
  refine ixR (H.arg A) j rfl hj2 fun e he => ?_
  repeat (first | with_reducible refine nn ?_ | with_reducible refine let_ ?_ | with_reducible refine brSome ?_ | with_reducible refine brF ?_ | with_reducible refine brT ?_ | ((with_reducible apply ldAt H 0); exact rfl; exact rfl) | ((with_reducible apply ldAt0 H 0); exact rfl; exact rfl) | ((with_reducible apply ldR (H.arg A)); assumption; (case hk => assumption); exact rfl) | ((with_reducible apply ldR0 (H.arg A)); assumption; (case hk => assumption); exact rfl) | ((with_reducible apply stAt H 0); exact rfl; exact rfl; intro h H) | ((with_reducible apply stAt0 H 0); exact rfl; exact rfl; intro h H) | ((with_reducible apply allocAt H); intro h b H) | ((with_reducible refine ⟨?_, ?_⟩); first | ((with_reducible apply ldAt H 0); exact rfl; exact rfl; exact rfl) | ((with_reducible apply ldAt0 H 0); exact rfl; exact rfl; exact rfl)))
  have hkd := (hk _ (List.getElem_mem hj2)).1
  have H := H.mv 7 3
  refine law34_do_ok H ho (by omega) hkd fun h6 s2 H => ?_
  refine ⟨ldAt0 H 3 rfl _ rfl (ldAt H 3 rfl _ rfl rfl), ?_⟩
  have H := H.mv 4 6
  refine law34_want_ok H w0 hw ho hi (by omega) V hkd fun h7 hr => ?_
  obtain ⟨ty2, r1, r2, r3, r4, r5, vl, al, H, V⟩ := hr
  have hst := stay_act ho acts[j].kind acts[j].n
  have ho' := ho.act acts[j].kind acts[j].n (by omega)
  obtain ⟨hi', hopn'⟩ := hi.act hopn ho acts[j].kind acts[j].n
  generalize (tActM D acts[j].kind acts[j].n).1 = D' at *
  have hw' : D'.l.map (·.willing) = ws := by rw [hst.will]; exact hw
  have hDl' : D'.l.length = ws.length := by rw [← hw', List.length_map]
  have hfl' := ho'.fl
  refine brN (by simp) ?_
  have H := H.mv 6 3
  refine twopc_Flight_ok H (by omega) fun r h8 H => ?_
  have hrn : r.n = D'.fl.length := H.n 0 rfl
  have hrn2 : r5.n = D'.fl.length := H.n 9 rfl
  refine nn (ldAt H 4 rfl _ rfl ?_)
  refine brN (by rw [hrn, hrn2]; simp) ?_
  refine loop1 (s1 := .one (.int .i64)) (fun (x : Int) h9 => ∃ (m : Nat), x = m ∧ m ≤ D'.fl.length ∧ h9 = h8) (fun (x : Int) _ => (D'.fl.length - x).toNat) ⟨0, rfl, Nat.zero_le _, rfl⟩ fun _ (x : Int) h9 hI => ?_
  obtain ⟨m, rfl, hm, rfl⟩ := hI
  refine brD (fun hc5 => ?_) fun hc5 => ?_
  · have hm2 : m < D'.fl.length := by omega
    refine ixAt H 0 rfl m rfl hm2 fun e he => ?_
    refine ldEl0 (E := eMsg) H 0 rfl he hm2 _ rfl ?_
    refine nn (ldAt H 4 rfl _ rfl ?_)
    refine ixAt H 9 rfl m rfl hm2 fun e he => ?_
    refine ldEl0 (E := eMsg) H 9 rfl he hm2 _ rfl ?_
    refine brN (by simp) ?_
    refine ixAt H 0 rfl m rfl hm2 fun e he => ?_
    refine ldEl (E := eMsg) (j := 1) H 0 rfl he hm2 _ rfl ?_
    refine nn (ldAt H 4 rfl _ rfl ?_)
    refine ixAt H 9 rfl m rfl hm2 fun e he => ?_
    refine ldEl (E := eMsg) (j := 1) H 9 rfl he hm2 _ rfl ?_
    refine brN (by simp) ?_
    rw [w64 (by omega) (by omega)]
    exact ⟨⟨m + 1, by omega, by omega, rfl⟩, by omega⟩
  · refine let_ ?_
    rw [hwn]
    -- the row that was told goes away; the document's comes to the front
    obtain ⟨rest, H⟩ : ∃ rest, At hB h9 (refL d2 ty2 r1 r2 willing r3 r4 r5 D' vl al ++ (dealL d ty s1 s2 D' ++ rest)) := ⟨_, (H.tail).mv 3 6⟩
    refine loop2 (s1 := .one .bool) (s2 := .one (.int .i64)) (fun (st : Bool) (x : Int) h10 => ∃ (m : Nat), x = m ∧ m ≤ ws.length ∧ (st = true ↔ ∀ i, i < m → (hi : i < D'.l.length) → D'.l[i].state = D'.bs) ∧ At hB h10 (refL d2 ty2 r1 r2 willing r3 r4 r5 D' vl al ++ (dealL d ty s1 s2 D' ++ rest))) (fun _ (x : Int) _ => (ws.length - x).toNat)
      ⟨0, rfl, Nat.zero_le _, ⟨fun _ i hi => absurd hi (Nat.not_lt_zero _), fun _ => rfl⟩, H⟩ fun _ (st : Bool) (x : Int) h10 hI => ?_
    obtain ⟨m, rfl, hm, hst2, H⟩ := hI
    refine brD (fun hc6 => ?_) fun hc6 => ?_
    · have hm2 : m < D'.l.length := by omega
      refine join1 (s1 := .one .bool) (fun (st2 : Bool) h11 => h11 = h10 ∧ (st2 = true ↔ ∀ i, i < m + 1 → (hi : i < D'.l.length) → D'.l[i].state = D'.bs)) (fun _ (st2 : Bool) h11 hJ => ?_) ?_
      · obtain ⟨rfl, hst3⟩ := hJ
        refine nn (ldAt0 H 0 rfl _ rfl ?_)
        refine ixAt H 1 rfl m rfl (by rw [row_len]; omega) fun e he => ?_
        refine ldRow H 1 rfl he D'.l[m].state (row_at _ _ _ hm2) D'.l[m].state rfl ?_
        refine twopc_State_ok (H.mv 6 3) (fun hb => by omega) (fun hz => by omega) fun k hk hk2 => ?_
        obtain rfl : m = k := by omega
        refine ⟨ldAt0 H 0 rfl _ rfl rfl, ldRow H 1 rfl he D'.l[m].state (row_at _ _ _ hm2) D'.l[m].state rfl rfl, ?_⟩
        refine brN (by simp) ?_
        refine nn (ldAt H 0 rfl _ rfl ?_)
        refine ixAt H 2 rfl m rfl (by rw [row_len]; omega) fun e he => ?_
        refine ldRow H 2 rfl he D'.l[m].down (row_at _ _ _ hm2) D'.l[m].down rfl ?_
        refine twopc_Up_ok (H.mv 6 3) (fun hb => by omega) (fun hz => by omega) fun k hk hk2 => ?_
        obtain rfl : m = k := by omega
        refine ⟨ldAt H 0 rfl _ rfl rfl, ldRow H 2 rfl he D'.l[m].down (row_at _ _ _ hm2) D'.l[m].down rfl rfl, ?_⟩
        refine brN (by simp) ?_
        rw [w64 (by omega) (by omega)]
        exact ⟨⟨m + 1, by omega, by omega, hst3, H⟩, by omega⟩
      · refine brB (fun hs => ?_) fun hs => ?_
        · refine nn (ldAt0 H 0 rfl _ rfl ?_)
          refine ixAt H 1 rfl m rfl (by rw [row_len]; omega) fun e he => ?_
          refine ldRow H 1 rfl he D'.l[m].state (row_at _ _ _ hm2) D'.l[m].state rfl ?_
          refine nn (ldAt0 H 0 rfl _ rfl ?_)
          refine ixAt H 1 rfl D'.l.length (by omega) (by rw [row_len]; omega) fun e he => ?_
          refine ldRow H 1 rfl he D'.bs (row_last ..) D'.bs rfl ?_
          refine let_ ⟨rfl, ?_⟩
          rw [beq_iff_eq]
          constructor
          · intro heq i hi hi2
            by_cases him : i < m
            · exact hst2.1 hs i him hi2
            · obtain rfl : i = m := by omega
              exact heq
          · intro hall
            exact hall m (by omega) hm2
        · refine ⟨rfl, ⟨(fun x => by cases x), fun hall => ?_⟩⟩
          have := hst2.2 fun i hi hi2 => hall i (by omega) hi2
          rw [hs] at this; cases this
    · have hmn : m = D'.l.length := by omega
      refine nn (ldAt0 H 0 rfl _ rfl ?_)
      refine ixAt H 1 rfl D'.l.length (by omega) (by rw [row_len]; omega) fun e he => ?_
      refine ldRow H 1 rfl he D'.bs (row_last ..) D'.bs rfl ?_
      refine twopc_State_ok (H.mv 6 3) (fun hb => by omega) (fun _ => ?_) fun k hk => by omega
      refine ⟨ldAt0 H 0 rfl _ rfl rfl, ldRow H 1 rfl he D'.bs (row_last ..) D'.bs rfl rfl, ?_⟩
      refine brN (by simp) ?_
      refine nn (ldAt H 0 rfl _ rfl ?_)
      refine ixAt H 2 rfl D'.l.length (by omega) (by rw [row_len]; omega) fun e he => ?_
      refine ldRow H 2 rfl he D'.bd (row_last ..) D'.bd rfl ?_
      refine twopc_Up_ok (H.mv 6 3) (fun hb => by omega) (fun _ => ?_) fun k hk => by omega
      refine ⟨ldAt H 0 rfl _ rfl rfl, ldRow H 2 rfl he D'.bd (row_last ..) D'.bd rfl rfl, ?_⟩
      refine brN (by simp) ?_
      have h7 := ho'.n7.2
      refine twopc_Settled_ok (H.mv 6 3) h7 fun r h11 H hr => ?_
      have H := H.mv 3 6
      have fin : (∃ (j_1 : Nat) (D : TD) (s2 : Sl) (ty2 : TypeId) (r1 r2 r3 r4 r5 : Sl) (vl al : List Int), IntKind.i64.wrap ((j : Int) + 1) = j_1 ∧ j_1 ≤ acts.length ∧ At hB h11 (refL d2 ty2 r1 r2 willing r3 r4 r5 D vl al ++ (dealL d ty s1 s2 D ++ [])) ∧ TOk j_1 D ∧ TInv D ∧ TOpen D ∧ D.l.map (·.willing) = ws ∧ VR j_1 D vl al) ∧ ((acts.length : Int) - IntKind.i64.wrap ((j : Int) + 1)).toNat < ((acts.length : Int) - (j : Int)).toNat := by
        rw [w64 (by omega) (by omega)]
        exact ⟨⟨j + 1, D', s2, ty2, r1, r2, r3, r4, r5, vl, al, by omega, by omega, at_take9 H, ho', hi', hopn', hw', V⟩, by omega⟩
      refine brB (fun hs => ?_) fun hs => ?_
      · refine nn (ldAt0 H 0 rfl _ rfl ?_)
        refine ixAt H 1 rfl D'.l.length (by omega) (by rw [row_len]; omega) fun e he => ?_
        refine ldRow H 1 rfl he D'.bs (row_last ..) D'.bs rfl ?_
        have hall := hst2.1 hs
        refine brNot (fun hx => ?_) fun _ => fin
        exfalso
        have e : r = decide (D'.bs > 1) := by
          cases hrr : r with
          | true => rw [hrr] at hr; exact (decide_eq_true (by have := (hr.1 rfl).1; omega)).symm
          | false =>
            refine (decide_eq_false fun hgt => ?_).symm
            rw [hrr] at hr
            exact absurd (hr.2 ⟨by omega, fun i hi => hall i (by omega) hi⟩) (by decide)
        rw [e] at hx
        simp at hx
      · refine brNot (fun hx => ?_) fun _ => fin
        exfalso
        have e : r = false := by
          cases hrr : r with
          | false => rfl
          | true =>
            rw [hrr] at hr
            have := hst2.2 fun i _ hi2 => (hr.1 rfl).2 i hi2
            rw [hs] at this; cases this
        rw [e] at hx
        cases hx
end Go.Proofs.Ytmpekddpehhdnaa
