/-
  Layer 34 (twopc): TwopcEnds and TwopcWilling over the heap alone; the arguments.
-/
import Derived.Test.YtmpekddpehhdnaaTl
namespace Go.Proofs.Ytmpekddpehhdnaa
open Go

theorem begin_len {D : TD} (h7 : D.l.length ≤ 7) : (beginM D).1.fl.length ≤ D.fl.length + 7 := by
  have tl : ∀ k but, (D.fl ++ toAll D.l.length k but).length ≤ D.fl.length + 7 := fun k but => by
    have := toAll_len D.l.length k but
    rw [List.length_append]; omega
  unfold beginM
  split
  · exact Nat.le_add_right _ _
  · split
    · exact tl _ _
    · exact tl _ _
theorem begin_stay (D : TD) : Stay D (beginM D).1 := by
  unfold beginM
  split
  · exact .refl D
  · split
    · exact .rest
    · exact .rest
theorem wt_le {D : TD} (h7 : D.l.length ≤ 7) : wt D ≤ 2 * D.fl.length + 14 := by
  have := wtL_le D.fl
  unfold wt
  split <;> omega
theorem act8 (D : TD) (i : Int) : tActM D 8 i = onT D i (startB D) (startP D) := by
  unfold tActM
  rw [if_neg (by decide), if_neg (by decide), if_neg (by decide), if_neg (by decide), if_neg (by decide), if_pos (by decide)]
theorem start_up {D : TD} {m : Nat} (hm : m ≤ D.l.length) {i : Int} (hi : i = (m : Int) - 1) : ((m = 0 → (onT D i (startB D) (startP D)).1.bd = false) ∧ (1 ≤ m → (onT D i (startB D) (startP D)).1.bd = D.bd)) ∧
    ∀ j, j < D.l.length → ((onT D i (startB D) (startP D)).1.pt j).down = if j + 1 = m then false else (D.pt j).down := by
  by_cases h0 : m = 0
  · subst h0
    have hi : i = -1 := by omega
    subst hi
    rw [onT_boss]
    unfold startB
    refine ⟨⟨fun _ => ?_, fun h => by omega⟩, fun j hj => ?_⟩
    · split
      · rfl
      · rename_i h; simpa using h
    · have e : ¬ (j + 1 = 0) := by omega
      rw [if_neg e]
      split <;> rfl
  · obtain ⟨k, rfl⟩ : ∃ k, m = k + 1 := ⟨m - 1, by omega⟩
    have hi : i = (k : Int) := by omega
    subst hi
    have hk : k < D.l.length := by omega
    rw [onT_ok hk]
    unfold startP
    split
    · refine ⟨⟨fun h => by omega, fun _ => rfl⟩, fun j hj => ?_⟩
      rw [pt_set hk rfl]
      by_cases e : j = k
      · rw [if_pos e, if_pos (by omega)]
      · rw [if_neg e, if_neg (by omega)]
    · rename_i h
      refine ⟨⟨fun h => by omega, fun _ => rfl⟩, fun j hj => ?_⟩
      by_cases e : j = k
      · subst e; rw [if_pos rfl, pt_get hk]; simpa using h
      · rw [if_neg (by omega)]
theorem flN2_len {h0 h : Heap} {L : List Res} {r : Sl} {l : List TMsg} (H : At h0 h (.own r 2 (eMsg.fl l) :: L)) : r.n = l.length := H.n 0 rfl
set_option maxHeartbeats 1600000 in
theorem law34_TwopcEnds_ok {willing l : Sl} {hB : Heap} {ws : List Bool} {acts : List TAct} (w0 : RdS hB 1 willing (eBool.fl ws)) (w1 : RdS hB 2 l (eTAct.fl acts) ∧ ∀ a ∈ acts, 0 ≤ a.kind ∧ a.kind ≤ 255) :
    C_law34_TwopcEnds willing l hB fun r h' => r = true ∧ Ext hB.size hB h' := by
  refine A_law34_TwopcEnds ?_
  unfold S_law34_TwopcEnds
  obtain ⟨A, hk⟩ := w1
  have hn := rdn A
  have hwn := rdn w0
  refine law34_fixed_ok fun h1 e1 => brN rfl (brD (fun _ => ⟨rfl, e1⟩) fun hc => brD (fun _ => ⟨rfl, e1⟩) fun hc1 => brD (fun _ => ⟨rfl, e1⟩) fun hc2 => ?_)
  refine twopc_New_ok (w0.ext' e1) (fun hb => by omega) fun g1 g7 h2 d ty s1 H => ?_
  have H : At hB h2 (dealL d ty s1 ⟨none, 0, 0⟩ (tNewM ws) ++ [] ++ []) := (At.of_ext e1).join H
  have inv0 := tnew_inv g1
  refine loop1 (s1 := .one (.int .i64)) (fun (x : Int) h5 => ∃ (j : Nat) (D : TD) (s2 : Sl), x = j ∧ j ≤ acts.length ∧ At hB h5 (dealL d ty s1 s2 D ++ []) ∧ TOk j D ∧ TInv D ∧ TOpen D ∧ D.l.length = ws.length) (fun (x : Int) _ => (acts.length - x).toNat)
    ⟨0, tNewM ws, ⟨none, 0, 0⟩, rfl, Nat.zero_le _, H, tnew_ok g1 g7, inv0.1, inv0.2, tnew_len ws⟩ fun _ (x : Int) h5 hI => ?_
  obtain ⟨j, D, s2, rfl, hj, H, ho, hi, hopn, hlen⟩ := hI
  refine brD (fun hc4 => ?_) fun hc4 => ?_
  · have hj2 : j < acts.length := by omega
    refine ixR (H.arg A) j rfl hj2 fun e he => ?_
    repeat (first | with_reducible refine nn ?_ | with_reducible refine let_ ?_ | with_reducible refine brSome ?_ | with_reducible refine brF ?_ | with_reducible refine brT ?_ | ((with_reducible apply ldAt H 0); exact rfl; exact rfl) | ((with_reducible apply ldAt0 H 0); exact rfl; exact rfl) | ((with_reducible apply ldR (H.arg A)); assumption; (case hk => assumption); exact rfl) | ((with_reducible apply ldR0 (H.arg A)); assumption; (case hk => assumption); exact rfl) | ((with_reducible apply stAt H 0); exact rfl; exact rfl; intro h H) | ((with_reducible apply stAt0 H 0); exact rfl; exact rfl; intro h H) | ((with_reducible apply allocAt H); intro h b H) | ((with_reducible refine ⟨?_, ?_⟩); first | ((with_reducible apply ldAt H 0); exact rfl; exact rfl; exact rfl) | ((with_reducible apply ldAt0 H 0); exact rfl; exact rfl; exact rfl)))
    have H := H.tail
    have hkd := (hk _ (List.getElem_mem hj2)).1
    refine law34_do_ok (F := []) H ho (by omega) hkd fun h6 s2 H => ?_
    have hst := stay_act ho acts[j].kind acts[j].n
    have ho' := ho.act acts[j].kind acts[j].n (by omega)
    obtain ⟨hi', hopn'⟩ := hi.act hopn ho acts[j].kind acts[j].n
    rw [w64 (by omega) (by omega)]
    exact ⟨⟨j + 1, _, s2, by omega, by omega, H, ho', hi', hopn', by rw [hst.len]; exact hlen⟩, by omega⟩
  · refine let_ ?_
    refine loop1 (s1 := .one (.int .i64)) (fun (x : Int) h6 => ∃ (m : Nat) (D : TD) (s2 : Sl), x = (m : Int) - 1 ∧ m ≤ ws.length + 1 ∧ At hB h6 (dealL d ty s1 s2 D ++ []) ∧ TOk (acts.length + m) D ∧ TInv D ∧ TOpen D ∧ D.l.length = ws.length ∧ (1 ≤ m → D.bd = false) ∧ ∀ i, i + 1 < m → (D.pt i).down = false) (fun (x : Int) _ => (ws.length - x).toNat)
      ⟨0, D, s2, by omega, Nat.zero_le _, H, ho.mono (by omega) (by omega), hi, hopn, hlen, (fun h => by omega), fun i hi => by omega⟩ fun _ (x : Int) h6 hI => ?_
    obtain ⟨m, D, s2, rfl, hm, H, ho, hi, hopn, hlen, hbd, hdn⟩ := hI
    refine brD (fun hc5 => ?_) fun hc5 => ?_
    · refine twopc_Start_ok H fun h7 H => ?_
      have hst := stay_act ho 8 ((m : Int) - 1)
      have ho' := ho.act 8 ((m : Int) - 1) (by omega)
      obtain ⟨hi', hopn'⟩ := hi.act hopn ho 8 ((m : Int) - 1)
      have hup := start_up (D := D) (m := m) (by omega) (i := (m : Int) - 1) rfl
      rw [act8] at hst ho' hi' hopn'
      refine let_ ?_
      rw [w64 (by omega) (by omega)]
      refine ⟨⟨m + 1, _, s2, by omega, by omega, H, ho', hi', hopn', by rw [hst.len]; exact hlen, fun _ => ?_, fun i him => ?_⟩, by omega⟩
      · by_cases h0 : m = 0
        · exact hup.1.1 h0
        · rw [hup.1.2 (by omega)]; exact hbd (by omega)
      · rw [hup.2 i (by omega)]
        split
        · rfl
        · exact hdn i (by omega)
    · have hm3 : m = ws.length + 1 := by omega
      have hU : Up D := ⟨hi, hopn, hbd (by omega), fun i hi2 => hdn i (by omega)⟩
      have hfl0 := ho.fl
      refine loop1 (s1 := .one (.int .i64)) (fun (x : Int) h7 => ∃ (q : Nat) (D : TD) (s2 : Sl), x = q ∧ q ≤ 2 ∧ At hB h7 (dealL d ty s1 s2 D ++ []) ∧ TOk (100 + q * 20001) D ∧ Up D ∧ D.l.length = ws.length ∧ D.fl.length ≤ 700 ∧ (1 ≤ q → 2 ≤ D.bs) ∧ (2 ≤ q → D.fl = [] ∧ ∀ i, (hi : i < D.l.length) → D.l[i].state = D.bs)) (fun (x : Int) _ => (2 - x).toNat)
        ⟨0, D, s2, rfl, by decide, H, ho.mono (by omega) (by omega), hU, hlen, by omega, (fun h => by omega), fun h => by omega⟩ fun _ (x : Int) h7 hI => ?_
      obtain ⟨q, D, s2, rfl, hq, H, ho, hU, hlen, hfl, hb2, hall⟩ := hI
      refine brD (fun hc6 => ?_) fun hc6 => ?_
      · refine twopc_Begin_ok H ho (by omega) fun h8 s2 H => ?_
        obtain ⟨u1, u2, u3, u4⟩ := hU.begin ho
        have ho1 : TOk (100 + q * 20001 + 1) (beginM D).1 := ho.act 0 0 (by omega)
        have hbl := begin_len (D := D) (by omega)
        have hst := begin_stay D
        have hwt := wt_le (D := (beginM D).1) (by rw [hst.len]; omega)
        rw [u2]
        refine brN rfl ?_
        refine twopc_Settle_ok (most := 20000) H ho1 (by omega) fun h9 s2 H ho2 => ?_
        obtain ⟨a1, a2, a3, a4, a5, _⟩ := settle_all 20000 u1 ho1 (by omega) (by omega)
        rw [w64 (by omega) (by omega)]
        refine ⟨⟨q + 1, _, s2, by omega, by omega, H, ho2.mono (by omega) (by omega), a2, by rw [a3.len, hst.len]; exact hlen, by rw [a1]; exact Nat.zero_le _, fun _ => done1 a2 a1 (a4 u3), fun h2 => ⟨a1, ?_⟩⟩, by omega⟩
        exact done2 a1 (done1 a2 a1 (a4 u3)) (a5 (u4 (hb2 (by omega))).1)
      · have hq2 : q = 2 := by omega
        obtain ⟨c1, c2⟩ := hall (by omega)
        refine twopc_Settled_ok H (by omega) fun r h8 H hr => ?_
        refine brY (hr.2 ⟨hb2 (by omega), c2⟩) ?_
        refine twopc_Flight_ok H (by omega) fun r h9 H => ?_
        have := flN2_len H
        refine ⟨?_, H.ext⟩
        rw [this, c1]
        rfl
/-! ## TwopcWilling -/
def eU8 : Enc UInt8 1 := ⟨fun b => [.int .u8 b.toNat], fun _ => rfl, by decide, fun x u hu => by
  simp only [List.mem_cons, List.not_mem_nil, or_false] at hu
  rcases hu with rfl; rfl⟩
theorem eU8_cB : ∀ l : List UInt8, eU8.fl l = cB l
  | [] => rfl
  | b :: l => by rw [Enc.fl_cons, eU8_cB l]; rfl
theorem Up.double {D : TD} (h : Up D) {m : TMsg} (hm : m ∈ D.fl) : Up (tDoubleM D m) :=
  ⟨h.inv.sub (fl := D.fl ++ [m]) (fun x hx => by rcases List.mem_append.1 hx with hx | hx; exact hx; rw [List.mem_singleton.1 hx]; exact hm) (fun _ x => x) fun _ x => x, h.opn, h.bd, h.dn⟩
theorem Prog1.double {D : TD} (h : Prog1 D) (m : TMsg) : Prog1 (tDoubleM D m) := by
  rcases h with h | h
  · exact .inl h
  · exact .inr fun i hi => (h i hi).imp id (Or.imp (fun x => List.mem_append_left _ x) (Or.imp (fun x => List.mem_append_left _ x) fun x => List.mem_append_left _ x))
theorem Prog2.double {D : TD} (h : Prog2 D) (m : TMsg) : Prog2 (tDoubleM D m) := fun hb i hi => (h hb i hi).imp id fun x => List.mem_append_left _ x
theorem Nice.double {D : TD} (h : Nice D) {m : TMsg} (hm : m ∈ D.fl) : Nice (tDoubleM D m) := ⟨h.1, fun x hx => by rcases List.mem_append.1 hx with hx | hx; exact h.2.1 x hx; rw [List.mem_singleton.1 hx]; exact h.2.1 m hm, h.2.2⟩
structure WInv (ws : List Bool) (N : Nat) (D : TD) : Prop where
  ok : TOk N D
  up : Up D
  p1 : Prog1 D
  p2 : Prog2 D
  ni : ws.all id = true → Nice D
  wi : D.l.map (·.willing) = ws
theorem WInv.deliver {ws : List Bool} {N : Nat} {D : TD} (h : WInv ws N D) {k : Nat} (hk : k < D.fl.length) (hN : N + 1 ≤ 1000000) : WInv ws (N + 1) (tDeliverM D k D.fl[k]).1 :=
  ⟨h.ok.deliver hk hN, h.up.deliver h.ok hk, h.p1.deliver h.up h.ok hk, h.p2.deliver h.up h.ok hk, fun x => (h.ni x).deliver h.up h.ok hk, by rw [(stay_deliver (h.ok.fk _ (List.getElem_mem hk)).2.2).will]; exact h.wi⟩
theorem WInv.double {ws : List Bool} {N : Nat} {D : TD} (h : WInv ws N D) {m : TMsg} (hm : m ∈ D.fl) (hN : N + 1 ≤ 1000000) : WInv ws (N + 1) (tDoubleM D m) :=
  ⟨h.ok.app [m] (by show 1 ≤ 7; decide) (fun x hx => by rw [List.mem_singleton.1 hx]; exact h.ok.fk m hm) hN, h.up.double hm, h.p1.double m, h.p2.double m, fun x => (h.ni x).double hm, h.wi⟩
set_option maxHeartbeats 1600000 in
theorem law34_TwopcWilling_ok {willing order : Sl} {hB : Heap} {ws : List Bool} {xs : List UInt8} (w0 : RdS hB 1 willing (eBool.fl ws)) (w1 : Arg hB 1 order (cB xs) ∧ order.below hB.size ∧ order.c ≤ 140737488351232) :
    C_law34_TwopcWilling willing order hB fun r h' => r = true ∧ Ext hB.size hB h' := by
  refine A_law34_TwopcWilling ?_
  unfold S_law34_TwopcWilling
  have A : RdS hB 1 order (eU8.fl xs) := by rw [eU8_cB]; exact w1.1.rd
  have hn := rdn A
  have hwn := rdn w0
  refine law34_fixed_ok fun h1 e1 => brN rfl (brD (fun _ => ⟨rfl, e1⟩) fun hc => brD (fun _ => ⟨rfl, e1⟩) fun hc1 => brD (fun _ => ⟨rfl, e1⟩) fun hc2 => ?_)
  refine twopc_New_ok (w0.ext' e1) (fun hb => by omega) fun g1 g7 h2 d ty s1 H => ?_
  have H : At hB h2 (dealL d ty s1 ⟨none, 0, 0⟩ (tNewM ws) ++ [] ++ []) := (At.of_ext e1).join H
  refine loop2 (s1 := .one .bool) (s2 := .one (.int .i64)) (fun (al : Bool) (x : Int) h3 => ∃ (j : Nat), x = j ∧ j ≤ ws.length ∧ al = (ws.take j).all id ∧ At hB h3 (dealL d ty s1 ⟨none, 0, 0⟩ (tNewM ws) ++ [])) (fun _ (x : Int) _ => (ws.length - x).toNat)
    ⟨0, rfl, Nat.zero_le _, rfl, H⟩ fun _ (al : Bool) (x : Int) h3 hI => ?_
  obtain ⟨j, rfl, hj, hal, H⟩ := hI
  refine brD (fun hc3 => ?_) fun hc3 => ?_
  · have hj2 : j < ws.length := by omega
    refine ixR (H.arg w0) j rfl hj2 fun e he => ?_
    refine ldR0 (H.arg w0) he hj2 ws[j] rfl ?_
    rw [w64 (by omega) (by omega)]
    have hs := all_take_succ ws j hj2
    refine brB (fun ha => ?_) fun ha => ?_
    · exact ⟨⟨j + 1, by omega, by omega, by rw [hs, ← hal, ha]; rfl, H⟩, by omega⟩
    · exact ⟨⟨j + 1, by omega, by omega, by rw [hs, ← hal, ha]; rfl, H⟩, by omega⟩
  · have hjl : j = ws.length := by omega
    subst hjl
    rw [List.take_length] at hal
    have o0 := tnew_ok g1 g7
    have inv0 := tnew_inv g1
    have U0 : Up (tNewM ws) := ⟨inv0.1, inv0.2, rfl, fun i hi => by rw [tnew_pt hi]⟩
    obtain ⟨u1, u2, u3, _⟩ := U0.begin o0
    have q1 : beginM (tNewM ws) = (tellM (tNewM ws) 1 0, 0) := by unfold beginM; rw [if_neg (by show ¬ false = true; decide), if_pos (show (tNewM ws).bs = 0 from rfl)]; rfl
    refine twopc_Begin_ok H o0 (by decide) fun h4 s2 H => ?_
    rw [u2]
    refine brN rfl ?_
    have WI : WInv ws 1 (beginM (tNewM ws)).1 := by
      refine ⟨o0.act 0 0 (by decide), u1, u3, fun hb => ?_, fun hw => ?_, ?_⟩
      · rw [q1] at hb; exact absurd hb (by show ¬ (2 : Int) ≤ 0; decide)
      · rw [q1]
        refine ⟨by show ¬ (0 : Int) = 3; decide, fun m hm => ?_, fun i hi => ?_⟩
        · rw [(toAll_mem.1 hm).1]; decide
        · have hi : i < (tNewM ws).l.length := hi
          show ((tNewM ws).pt i).willing = true ∧ ((tNewM ws).pt i).state ≠ 3
          refine ⟨(will_all (tnew_will ws)).1 hw i hi, ?_⟩
          rw [tnew_pt hi]
          show ¬ (0 : Int) = 3; decide
      · rw [q1]; exact tnew_will ws
    refine join0 (fun h5 => ∃ (D : TD) (s2 : Sl), At hB h5 (dealL d ty s1 s2 D ++ []) ∧ WInv ws 300 D) (fun _ h5 hJ => ?_) ?_
    · obtain ⟨D, s2, H, WI⟩ := hJ
      have hfl := WI.ok.fl
      have hlen : D.l.length = ws.length := by rw [← WI.wi, List.length_map]
      have hwt := wt_le (D := D) (by omega)
      refine twopc_Settle_ok (most := 20000) H WI.ok (by omega) fun h6 s2 H ho2 => ?_
      obtain ⟨a1, a2, a3, a4, a5, a6⟩ := settle_all 20000 WI.up WI.ok (by omega) (by omega)
      have hb := done1 a2 a1 (a4 WI.p1)
      have hal2 := done2 a1 hb (a5 WI.p2)
      have hw2 : (settleM 20000 D).1.l.map (·.willing) = ws := by rw [a3.will]; exact WI.wi
      have hlen2 : (settleM 20000 D).1.l.length = ws.length := by rw [a3.len]; exact hlen
      have hni := fun x => a6 (WI.ni x)
      generalize (settleM 20000 D).1 = D' at *
      refine twopc_Settled_ok H (by omega) fun r h7 H hr => ?_
      refine brY (hr.2 ⟨hb, hal2⟩) ?_
      refine twopc_State_ok H (fun hx => by omega) (fun _ => ⟨?_, H.ext⟩) fun k hk => by omega
      have hb3 := a2.inv.bs
      cases hwa : ws.all id with
      | true =>
        have := (hni hwa).1
        have hb4 : D'.bs = 2 := by omega
        rw [hal, hwa, hb4]; rfl
      | false =>
        have hb4 : D'.bs = 3 := by
          rcases hb3 with x | x | x
          · omega
          · exfalso
            have hat := a2.inv.atomic (.inl x)
            have := (will_all hw2).2 fun i hi => (hat.2 i hi).2
            rw [hwa] at this; cases this
          · exact x
        rw [hal, hwa, hb4]; rfl
    · refine loop1 (s1 := .one (.int .i64)) (fun (x : Int) h5 => ∃ (j : Nat) (D : TD) (s2 : Sl), x = j ∧ j ≤ xs.length ∧ At hB h5 (dealL d ty s1 s2 D ++ []) ∧ WInv ws (1 + 2 * j) D) (fun (x : Int) _ => (xs.length - x).toNat)
        ⟨0, _, s2, rfl, Nat.zero_le _, H, WI⟩ fun _ (x : Int) h5 hI => ?_
      obtain ⟨j, D, s2, rfl, hj, H, WI⟩ := hI
      have mono : ∀ {D : TD} {N : Nat}, N ≤ 300 → WInv ws N D → WInv ws 300 D := fun hN h => ⟨h.ok.mono hN (by decide), h.up, h.p1, h.p2, h.ni, h.wi⟩
      refine brD (fun hc4 => ?_) fun hc4 => ⟨D, s2, H, mono (by omega) WI⟩
      have hj2 : j < xs.length := by omega
      have hfl := WI.ok.fl
      refine ixR (H.arg A) j rfl hj2 fun e he => ?_
      refine ldR0 (H.arg A) he hj2 (xs[j].toNat : Int) rfl ?_
      have hx : xs[j].toNat < 256 := xs[j].toNat_lt
      generalize xs[j].toNat = x at hx
      refine twopc_Flight_ok H (by omega) fun r h6 H => ?_
      have hrn := flN2_len H
      have H := H.tail
      refine let_ ?_
      rw [hrn]
      refine br beq_iff_eq (fun h0 => ⟨D, s2, H, mono (by omega) WI⟩) fun h0 => ?_
      have hp : 0 < D.fl.length := by omega
      rw [w64 (n := (x : Int)) (by omega) (by omega), rem_nonneg (by omega)]
      have hmod : x % D.fl.length < D.fl.length := Nat.mod_lt _ hp
      refine join0 (fun h7 => ∃ (D' : TD) (s2 : Sl), At hB h7 (dealL d ty s1 s2 D' ++ []) ∧ WInv ws (2 + 2 * j) D' ∧ D.fl.length ≤ D'.fl.length) (fun _ h7 hJ => ?_) ?_
      · obtain ⟨D', s2, H, WI', hle⟩ := hJ
        refine nz (by omega) ?_
        refine twopc_Deliver_ok H WI'.ok (by omega) (fun hb => by omega) fun k hk hk2 h8 s2 H => ?_
        rw [w64 (by omega) (by omega)]
        exact ⟨⟨j + 1, _, s2, by omega, by omega, H, by have := WI'.deliver hk2 (by omega); rwa [show 2 + 2 * j + 1 = 1 + 2 * (j + 1) by omega] at this⟩, by omega⟩
      · refine brD (fun h200 => nz (by omega) ?_) fun _ => ⟨D, s2, H, ⟨WI.ok.mono (by omega) (by omega), WI.up, WI.p1, WI.p2, WI.ni, WI.wi⟩, Nat.le_refl _⟩
        refine twopc_Double_ok H WI.ok (fun hb => by omega) fun k hk hk2 h8 s2 H => ?_
        exact ⟨_, s2, H, by have := WI.double (List.getElem_mem hk2) (by omega); rwa [show 1 + 2 * j + 1 = 2 + 2 * j by omega] at this, by show _ ≤ (D.fl ++ [_]).length; rw [List.length_append]; omega⟩
/-! ## Arguments -/
section
open Go.ChangeShapes Go.WideShapes
variable {H : Type} {enc : TypeId × Value → H} {w : World} {b0 : Nat} {v : Value} {d : DataW H} {ps : List MemPlace}
set_option maxRecDepth 100000 in
theorem args_act34 (hval : Value.okWide Try.prog w .any b0 42 v) (hd : DataW.Trod enc Try.prog w 0 (fun _ => true) true 42 v d ps) (hf : Fits Try.prog 42 d) :
    ∃ (s : Sl) (acts : List TAct), v = s.v ∧ RdS w.heap 2 s (eTAct.fl acts) ∧ ∀ a ∈ acts, 0 ≤ a.kind ∧ a.kind ≤ 255 := by
  have he : ElS enc Try.prog w 48 fun cs => ∃ a : TAct, cs = eTAct.cells a ∧ 0 ≤ a.kind ∧ a.kind ≤ 255 := by
    refine els_st Try.underlying48 fun cs hl hf => ?_
    have hl3 : cs.length = 2 := hl.trans (by kernel_rfl)
    match cs, hl3 with
    | [c0, c1], _ =>
      obtain ⟨_, _, h0, _⟩ := hf 0 _ rfl
      obtain ⟨_, _, h1, _⟩ := hf 1 _ rfl
      obtain ⟨n0, e0, w0⟩ := el_int Try.underlying5 _ _ _ h0
      obtain ⟨n1, e1, w1⟩ := el_int Try.underlying3 _ _ _ h1
      have e0' : [c0] = [Value.int .u8 n0] := e0
      have e1' : [c1] = [Value.int .i64 n1] := e1
      simp only [List.cons.injEq, and_true] at e0' e1'
      subst e0' e1'
      exact ⟨⟨n0, n1⟩, rfl, wf_u8 w0⟩
  obtain ⟨s, css, h1, _, h3, h4, _⟩ := args_sl (sz := 2) Try.underlying42 (by kernel_rfl) (by decide) (of_decide_eq_true (by kernel_rfl)) he hval hd hf
  obtain ⟨acts, h6, h7, _⟩ := cells_of eTAct.cells _ fun c hc => (h3 c hc).2
  rw [h6] at h4
  exact ⟨s, acts, h1, h4.rd, h7⟩
set_option maxRecDepth 100000 in
theorem args_bools (hval : Value.okWide Try.prog w .any b0 41 v) (hd : DataW.Trod enc Try.prog w 0 (fun _ => true) true 41 v d ps) (hf : Fits Try.prog 41 d) :
    ∃ (s : Sl) (bs : List Bool), v = s.v ∧ RdS w.heap 1 s (eBool.fl bs) := by
  obtain ⟨s, css, h1, _, h3, h4, _⟩ := args_sl (sz := 1) Try.underlying41 (by kernel_rfl) (by decide) (of_decide_eq_true (by kernel_rfl)) (els_bool Try.underlying4) hval hd hf
  obtain ⟨bs, h6, _, _⟩ := cells_of eBool.cells (fun _ => True) fun c hc => by obtain ⟨_, b, hb⟩ := h3 c hc; exact ⟨b, hb, trivial⟩
  rw [h6] at h4
  exact ⟨s, bs, h1, h4.rd⟩
set_option maxRecDepth 100000 in
theorem args_u8s (hval : Value.okWide Try.prog w .any b0 22 v) (hd : DataW.Trod enc Try.prog w 0 (fun _ => true) true 22 v d ps) (hf : Fits Try.prog 22 d) :
    ∃ (s : Sl) (xs : List UInt8), v = s.v ∧ Arg w.heap 1 s (cB xs) ∧ s.below w.heap.size ∧ s.c ≤ 140737488351232 :=
  args_bytes Try.underlying22 Try.underlying5 (by kernel_rfl) (of_decide_eq_true (by kernel_rfl)) hval hd hf
end
end Go.Proofs.Ytmpekddpehhdnaa
