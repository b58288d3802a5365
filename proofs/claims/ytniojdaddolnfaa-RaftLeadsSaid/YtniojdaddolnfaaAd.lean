/-
  Layer 8 (raft): the contracts of the outer calls.
-/
import Derived.Test.YtniojdaddolnfaaAc
namespace Go.Proofs.Ytniojdaddolnfaa
open Go

section
variable {h0 h : Heap} {F : List Res} {d : Nat} {X : RN}
theorem rToAll_len (hb : RB X) : (rToAll X).out.length ≤ X.out.length + 7 := by
  have := others_len X X.n.toNat
  have := hb.n7
  show (X.out ++ _).length ≤ _
  rw [List.length_append, List.length_map]; omega
theorem rAll_len (hb : RB X) (m : RM) : (rAll X m).out.length ≤ X.out.length + 7 := by
  have := others_len X X.n.toNat
  have := hb.n7
  show (X.out ++ _).length ≤ _
  rw [List.length_append, List.length_map]; omega
theorem RaftAt.log {K : Option Addr → Prop} (H : RaftAt h0 h d X F) (hK : ∀ lg, K (some ⟨lg, 0, none⟩)) : Ld .ptr h ((⟨d, 0, none⟩ : Addr).add 11) K := by
  obtain ⟨ty, lg, tl, sl, so, z, hz, H⟩ := H
  exact ldAt (j := 11) H 0 rfl (some ⟨lg, 0, none⟩) rfl (hK lg)
/-- The log's last one, asked of the node's own log. -/
theorem lastR_ok {p : Addr → Addr} {R : Int → Int → Heap → Prop} (H : RaftAt h0 h d X F) (hl : X.log.length ≤ 100000) (hR : R (X.log.length : Int) (lastT X.log) h) : Ld .ptr h ((⟨d, 0, none⟩ : Addr).add 11) fun l => C_log_Log_Last l h R := by
  obtain ⟨ty, lg, tl, sl, so, z, hz, H⟩ := H
  exact ldAt (j := 11) H 0 rfl (some ⟨lg, 0, none⟩) rfl (log_Last_ok H 1 rfl 2 rfl hl hR)
theorem raft_Last_ok {R : Int → Heap → Prop} (H : RaftAt h0 h d X F) (hl : X.log.length ≤ 100000) (hR : R (X.log.length : Int) h) : C_raft_Node_Last (some ⟨d, 0, none⟩) h R := by
  refine A_raft_Node_Last ?_
  unfold S_raft_Node_Last
  exact brF (nn (lastR_ok (p := id) H hl hR))
theorem raft_add_ok {data : ByteArray} {R : Int → Heap → Prop} (H : RaftAt h0 h d X F) (hb : RB X) (hc0 : 0 ≤ X.commit) (ho : X.out.length ≤ 800000) (hR : ∀ h', RaftAt h0 h' d (rAdd X data).1 F → R (rAdd X data).2 h') : C_raft_Node_add (some ⟨d, 0, none⟩) data h R := by
  refine A_raft_Node_add ?_
  unfold S_raft_Node_add
  have hl := hb.l
  unfold rAdd at hR
  obtain ⟨ty, lg, tl, sl, so, z, hz, H⟩ := H
  repeat (first | with_reducible refine nn ?_ | with_reducible refine let_ ?_ | with_reducible refine brSome ?_ | with_reducible refine brF ?_ | with_reducible refine brT ?_ | ((with_reducible apply ldAt H 0); exact rfl; exact rfl) | ((with_reducible apply ldAt0 H 0); exact rfl; exact rfl) | ((with_reducible apply stAt H 0); exact rfl; exact rfl; intro h H) | ((with_reducible apply stAt0 H 0); exact rfl; exact rfl; intro h H) | ((with_reducible refine ⟨?_, ?_⟩); first | ((with_reducible apply ldAt H 0); exact rfl; exact rfl; exact rfl) | ((with_reducible apply ldAt0 H 0); exact rfl; exact rfl; exact rfl)))
  refine log_Add_ok (G := .blk d ty (X.cells lg so) :: .own so 9 (eMS.fl z) :: (F ++ entsR z)) (H.mv 1 2) (by omega) (fun h1 h' H => ?_) (fun h1 h2 h' H => ?_) fun h1 h2 h' sl' H => ?_
  · rw [if_pos h1] at hR
    exact brY rfl (hR _ ⟨ty, lg, tl, sl, so, z, hz, H.mv 2 1⟩)
  · rw [if_neg h1, if_pos h2] at hR
    exact brY rfl (hR _ ⟨ty, lg, tl, sl, so, z, hz, H.mv 2 1⟩)
  · rw [if_neg h1, if_neg h2] at hR
    refine brN rfl (nn ?_)
    have H : RaftAt h0 h' d { X with log := X.log ++ [⟨X.term, data⟩] } F := ⟨ty, lg, tl, sl', so, z, hz, H.mv 2 1⟩
    have hll : (X.log ++ [(⟨X.term, data⟩ : RE)]).length = X.log.length + 1 := by rw [List.length_append, List.length_singleton]
    have hb1 : RB { X with log := X.log ++ [⟨X.term, data⟩] } := ⟨hb.n1, hb.n7, hb.id0, hb.idn, hb.nx, by show (X.log ++ [_]).length ≤ _; rw [hll]; omega⟩
    refine lastR_ok (p := id) H (by show (X.log ++ [_]).length ≤ _; rw [hll]; omega) ?_
    have e : (((X.log ++ [(⟨X.term, data⟩ : RE)]).length : Nat) : Int) = (X.log.length : Int) + 1 := by rw [hll]; omega
    show C_raft_Node_dirty _ (((X.log ++ [(⟨X.term, data⟩ : RE)]).length : Nat) : Int) _ _
    rw [e]
    refine raft_dirty_ok H fun h3 H => ?_
    refine raft_toAll_ok H (hb1.of rfl rfl rfl rfl) (by show X.out.length ≤ _; omega) fun h4 H => ?_
    have hlen := rToAll_len (X := rDirty { X with log := X.log ++ [⟨X.term, data⟩] } ((X.log.length : Int) + 1)) (hb1.of rfl rfl rfl rfl)
    have hlen : (rToAll (rDirty { X with log := X.log ++ [⟨X.term, data⟩] } ((X.log.length : Int) + 1))).out.length ≤ X.out.length + 7 := hlen
    exact raft_agree_ok H (hb1.of rfl rfl rfl rfl) hc0 (by omega) fun h5 H => hR _ H
def leadJ (X : RN) (j : Nat) : RN := { X with since := 0, quiet := 0, role := 3, leader := X.id, heard := 0, next := fun t => if t < j then (X.log.length : Int) + 1 else X.next t, matc := fun t => if t < j then 0 else X.matc t }
theorem leadJ_succ (X : RN) (j : Nat) : ({ leadJ X j with next := upd (leadJ X j).next j ((X.log.length : Int) + 1), matc := upd (leadJ X j).matc j 0 } : RN) = leadJ X (j + 1) := by
  have e1 : upd (leadJ X j).next j ((X.log.length : Int) + 1) = (leadJ X (j + 1)).next := by
    funext t
    show (if t = j then _ else if t < j then _ else _) = if t < j + 1 then _ else _
    by_cases h : t = j
    · rw [if_pos h, if_pos (by omega)]
    · rw [if_neg h]
      by_cases h2 : t < j
      · rw [if_pos h2, if_pos (by omega)]
      · rw [if_neg h2, if_neg (by omega)]
  have e2 : upd (leadJ X j).matc j 0 = (leadJ X (j + 1)).matc := by
    funext t
    show (if t = j then _ else if t < j then _ else _) = if t < j + 1 then _ else _
    by_cases h : t = j
    · rw [if_pos h, if_pos (by omega)]
    · rw [if_neg h]
      by_cases h2 : t < j
      · rw [if_pos h2, if_pos (by omega)]
      · rw [if_neg h2, if_neg (by omega)]
  rw [e1, e2]; rfl
theorem leadJ_end (X : RN) (h : 0 ≤ X.n) : leadJ X X.n.toNat = rLead0 X := by
  unfold leadJ rLead0
  have e : ∀ t : Nat, (t < X.n.toNat) = ((t : Int) < X.n) := fun t => propext (by omega)
  simp only [e]
theorem RB.lead (hb : RB X) (j : Nat) : RB (leadJ X j) := ⟨hb.n1, hb.n7, hb.id0, hb.idn, fun t => by
  have hl := hb.l
  have hn := hb.nx t
  show 0 ≤ (if t < j then _ else _) ∧ (if t < j then _ else _) ≤ (1025 : Int)
  split <;> omega, hb.l⟩
theorem raft_leads_ok {R : Heap → Prop} (H : RaftAt h0 h d X F) (hb : RB X) (hc0 : 0 ≤ X.commit) (ho : X.out.length ≤ 790000) (hR : ∀ h', RaftAt h0 h' d (rLeads X) F → R h') : C_raft_Node_leads (some ⟨d, 0, none⟩) h R := by
  refine A_raft_Node_leads ?_
  unfold S_raft_Node_leads
  have hn := hb.n7
  have hn1 := hb.n1
  have hl := hb.l
  refine nn (ldR0_ok H X.id (fun _ _ => rfl) (nn ?_))
  refine stR_ok (j := 8) { X with since := 0 } H rfl rfl rfl (fun _ _ => rfl) fun h1 H => nn ?_
  refine stR_ok (j := 9) { X with since := 0, quiet := 0 } H rfl rfl rfl (fun _ _ => rfl) fun h1 H => nn ?_
  refine stR_ok (j := 6) { X with since := 0, quiet := 0, role := 3 } H rfl rfl rfl (fun _ _ => rfl) fun h1 H => nn ?_
  refine stR_ok (j := 7) { X with since := 0, quiet := 0, role := 3, leader := X.id } H rfl rfl rfl (fun _ _ => rfl) fun h1 H => nn ?_
  refine stR_ok (j := 13) { X with since := 0, quiet := 0, role := 3, leader := X.id, heard := 0 } H rfl rfl rfl (fun _ _ => rfl) fun h1 H => nn ?_
  refine lastR_ok (p := id) H (by show X.log.length ≤ _; omega) (nn ?_)
  refine ldR_ok (j := 1) H X.n (fun _ _ => rfl) ?_
  refine loop1 (s1 := .one (.int .i64)) (fun (y : Int) h1 => ∃ j : Nat, y = j ∧ (j : Int) ≤ X.n ∧ RaftAt h0 h1 d (leadJ X j) F) (fun (y : Int) _ => (X.n - y).toNat)
    ⟨0, rfl, by show (0 : Int) ≤ _; omega, H⟩ fun _ (y : Int) h1 hI => ?_
  obtain ⟨j, rfl, hj, H⟩ := hI
  refine brD (fun hc => ?_) fun hc => ?_
  · refine nn (ixArr j rfl (by omega) (nn ?_))
    show St _ _ (.int .i64 (IntKind.i64.wrap ((X.log.length : Int) + 1))) _
    rw [w64 (n := (X.log.length : Int) + 1) (by omega) (by omega), w64 (n := (j : Int) + 1) (by omega) (by omega)]
    refine stR_ok (j := 14 + j) { leadJ X j with next := upd (leadJ X j).next j ((X.log.length : Int) + 1) } H (by simp; omega) rfl rfl (fun lg so => cells_nextS _ lg so _ j (by omega)) fun h2 H => ?_
    refine ixArr j rfl (by omega) ?_
    refine stR_ok (j := 21 + j) { leadJ X j with next := upd (leadJ X j).next j ((X.log.length : Int) + 1), matc := upd (leadJ X j).matc j 0 } H (by simp; omega) rfl rfl (fun lg so => cells_matcS { leadJ X j with next := upd (leadJ X j).next j ((X.log.length : Int) + 1) } lg so _ j (by omega)) fun h3 H => ?_
    rw [leadJ_succ] at H
    exact ⟨⟨j + 1, by omega, by omega, H⟩, by omega⟩
  · have hjn : X.n.toNat = j := by omega
    rw [← hjn, leadJ_end X (by omega)] at H
    have hb2 : RB (rLead0 X) := by rw [← leadJ_end X (by omega)]; exact hb.lead _
    unfold rLeads at hR
    refine raft_add_ok H hb2 hc0 (by show X.out.length ≤ _; omega) fun h2 H => ?_
    refine br bne_iff_ne (fun hne => ?_) fun heq => ?_
    · rw [if_pos hne] at hR
      refine nn (ldR_ok (j := 4) H _ (fun _ _ => rfl) ?_)
      exact raft_follow_ok H hR
    · rw [if_neg heq] at hR
      exact hR _ H
theorem raft_stands_ok {R : Heap → Prop} (H : RaftAt h0 h d X F) (hb : RB X) (hc0 : 0 ≤ X.commit) (ht : 0 ≤ X.term ∧ X.term ≤ 1099511627776) (ho : X.out.length ≤ 780000) (hR : ∀ h', RaftAt h0 h' d (rStands X) F → R h') : C_raft_Node_stands (some ⟨d, 0, none⟩) h R := by
  refine A_raft_Node_stands ?_
  unfold S_raft_Node_stands
  have hn := hb.n7
  have hi0 := hb.id0
  have hin := hb.idn
  have hl := hb.l
  unfold rStands at hR
  refine nn (ldR0_ok H X.id (fun _ _ => rfl) (nneg (by rw [wu64 (by omega) (by omega)]; omega) (nn ?_)))
  rw [bit_one hi0 (by omega)]
  refine stR_ok (j := 8) { X with since := 0 } H rfl rfl rfl (fun _ _ => rfl) fun h1 H => nn ?_
  refine stR_ok (j := 6) { X with since := 0, role := 2 } H rfl rfl rfl (fun _ _ => rfl) fun h1 H => nn ?_
  refine stR_ok (j := 12) { X with since := 0, role := 2, votes := 2 ^ X.id.toNat } H rfl rfl rfl (fun _ _ => rfl) fun h1 H => nn ?_
  refine ldR_ok (j := 4) H X.term (fun _ _ => rfl) (nn (ldR0_ok H X.id (fun _ _ => rfl) (nn ?_)))
  rw [w64 (by omega) (by omega)]
  refine stR_ok (j := 4) { X with since := 0, role := 2, votes := 2 ^ X.id.toNat, term := X.term + 1 } H rfl rfl rfl (fun _ _ => rfl) fun h1 H => nn ?_
  refine stR_ok (j := 5) { X with since := 0, role := 2, votes := 2 ^ X.id.toNat, term := X.term + 1, vote := X.id } H rfl rfl rfl (fun _ _ => rfl) fun h1 H => nn ?_
  refine stR_ok (j := 29) (rStand0 X) H rfl rfl rfl (fun _ _ => rfl) fun h1 H => nn ?_
  refine ldR_ok (j := 12) H ((2 ^ X.id.toNat : Nat) : Int) (fun _ _ => rfl) ?_
  refine raft_most_ok H (pow7 hi0 (by omega)) (brD (fun hm => ?_) fun hm => ?_)
  · rw [if_pos (show mostB X (2 ^ X.id.toNat) from hm)] at hR
    exact raft_leads_ok H (hb.of rfl rfl rfl rfl) hc0 (by show X.out.length ≤ _; omega) hR
  · rw [if_neg (show ¬ mostB X (2 ^ X.id.toNat) from hm)] at hR
    refine nn (lastR_ok (p := id) H (by show X.log.length ≤ _; omega) (nn ?_))
    refine ldR_ok (j := 4) H (X.term + 1) (fun _ _ => rfl) ?_
    exact raft_all_ok (m := ⟨3, 0, 0, X.term + 1, X.log.length, lastT X.log, 0, false, []⟩) H (hb.of rfl rfl rfl rfl) rfl (by show X.out.length ≤ _; omega) hR
theorem raft_asks_ok {R : Heap → Prop} (H : RaftAt h0 h d X F) (hb : RB X) (hc0 : 0 ≤ X.commit) (ht : 0 ≤ X.term ∧ X.term ≤ 1099511627776) (ho : X.out.length ≤ 770000) (hR : ∀ h', RaftAt h0 h' d (rAsks X) F → R h') : C_raft_Node_asks (some ⟨d, 0, none⟩) h R := by
  refine A_raft_Node_asks ?_
  unfold S_raft_Node_asks
  have hn := hb.n7
  have hi0 := hb.id0
  have hin := hb.idn
  have hl := hb.l
  unfold rAsks at hR
  refine nn (ldR0_ok H X.id (fun _ _ => rfl) (nneg (by rw [wu64 (by omega) (by omega)]; omega) (nn ?_)))
  rw [bit_one hi0 (by omega)]
  refine stR_ok (j := 8) { X with since := 0 } H rfl rfl rfl (fun _ _ => rfl) fun h1 H => nn ?_
  refine stR_ok (j := 6) { X with since := 0, role := 1 } H rfl rfl rfl (fun _ _ => rfl) fun h1 H => nn ?_
  refine stR_ok (j := 7) { X with since := 0, role := 1, leader := -1 } H rfl rfl rfl (fun _ _ => rfl) fun h1 H => nn ?_
  refine stR_ok (j := 12) (rAsk0 X) H rfl rfl rfl (fun _ _ => rfl) fun h1 H => nn ?_
  refine ldR_ok (j := 12) H ((2 ^ X.id.toNat : Nat) : Int) (fun _ _ => rfl) ?_
  refine raft_most_ok H (pow7 hi0 (by omega)) (brD (fun hm => ?_) fun hm => ?_)
  · rw [if_pos (show mostB X (2 ^ X.id.toNat) from hm)] at hR
    exact raft_stands_ok H (hb.of rfl rfl rfl rfl) hc0 ht (by show X.out.length ≤ _; omega) hR
  · rw [if_neg (show ¬ mostB X (2 ^ X.id.toNat) from hm)] at hR
    refine nn (lastR_ok (p := id) H (by show X.log.length ≤ _; omega) (nn ?_))
    refine ldR_ok (j := 4) H X.term (fun _ _ => rfl) ?_
    rw [w64 (by omega) (by omega)]
    exact raft_all_ok (m := ⟨1, 0, 0, X.term + 1, X.log.length, lastT X.log, 0, false, []⟩) H (hb.of rfl rfl rfl rfl) rfl (by show X.out.length ≤ _; omega) hR
theorem raft_lead_ok {R : Heap → Prop} (H : RaftAt h0 h d X F) (hb : RB X) (hq : 0 ≤ X.quiet ∧ X.quiet ≤ 1000000000) (hh : X.heard < 128) (ho : X.out.length ≤ 780000) (hR : ∀ h', RaftAt h0 h' d (rLead X) F → R h') : C_raft_Node_lead (some ⟨d, 0, none⟩) h R := by
  refine A_raft_Node_lead ?_
  unfold S_raft_Node_lead
  have hn := hb.n7
  have hi0 := hb.id0
  have hin := hb.idn
  unfold rLead at hR
  refine nn (ldR_ok (j := 9) H X.quiet (fun _ _ => rfl) (nn ?_))
  rw [w64 (by omega) (by omega)]
  refine stR_ok (j := 9) { X with quiet := X.quiet + 1 } H rfl rfl rfl (fun _ _ => rfl) fun h1 H => nn ?_
  refine ldR_ok (j := 9) H (X.quiet + 1) (fun _ _ => rfl) (nn (ldR_ok (j := 2) H X.elect (fun _ _ => rfl) ?_))
  have beat : ∀ {Y : RN} {h2 : Heap}, RB Y → Y.out.length ≤ 780000 → RaftAt h0 h2 d Y F → (∀ h', RaftAt h0 h' d (rBeat Y) F → R h') → Nn (some (⟨d, 0, none⟩ : Addr)) fun p4 => Ld (.int .i64) h2 (p4.add 8) fun (since : Int) => Nn (some (⟨d, 0, none⟩ : Addr)) fun p5 => Ld (.int .i64) h2 (p5.add 3) fun (beat : Int) =>
      (bif decide (since ≥ beat) then C_raft_Node_toAll (some ⟨d, 0, none⟩) h2 fun h_2 => R h_2 else R h2) := fun {Y h2} hbY hoY H hR => by
    unfold rBeat at hR
    refine nn (ldR_ok (j := 8) H Y.since (fun _ _ => rfl) (nn (ldR_ok (j := 3) H Y.beat (fun _ _ => rfl) ?_)))
    refine brD (fun hs => ?_) fun hs => ?_
    · rw [if_pos hs] at hR
      exact raft_toAll_ok H hbY (by omega) hR
    · rw [if_neg hs] at hR
      exact hR _ H
  by_cases hqe : X.quiet + 1 ≥ X.elect
  · rw [if_pos hqe] at hR
    by_cases hm : mostB X (X.heard ||| 2 ^ X.id.toNat)
    · rw [if_neg fun x => x hm] at hR
      refine join0 (fun h2 => RaftAt h0 h2 d { X with quiet := 0, heard := 0 } F) (fun _ h2 H => beat (Y := { X with quiet := 0, heard := 0 }) (hb.of rfl rfl rfl rfl) ho H hR) ?_
      refine brY (decide_eq_true hqe) (nn (ldR_ok (j := 13) H (X.heard : Int) (fun _ _ => rfl) (nn (ldR0_ok H X.id (fun _ _ => rfl) (nneg (by rw [wu64 (by omega) (by omega)]; omega) ?_)))))
      rw [bit_orT hh hi0 (by omega)]
      refine let_ (nn ?_)
      refine stR_ok (j := 9) { X with quiet := 0 } H rfl rfl rfl (fun _ _ => rfl) fun h1 H => nn ?_
      refine stR_ok (j := 13) { X with quiet := 0, heard := 0 } H rfl rfl rfl (fun _ _ => rfl) fun h1 H => ?_
      exact raft_most_ok H (or7 hh hi0 (by omega)) (brN (by rw [decide_eq_true (show mostB { X with quiet := 0, heard := 0 } _ from hm)]; rfl) H)
    · rw [if_pos hm] at hR
      refine join0 (fun h2 => False) (fun _ h2 H => H.elim) ?_
      refine brY (decide_eq_true hqe) (nn (ldR_ok (j := 13) H (X.heard : Int) (fun _ _ => rfl) (nn (ldR0_ok H X.id (fun _ _ => rfl) (nneg (by rw [wu64 (by omega) (by omega)]; omega) ?_)))))
      rw [bit_orT hh hi0 (by omega)]
      refine let_ (nn ?_)
      refine stR_ok (j := 9) { X with quiet := 0 } H rfl rfl rfl (fun _ _ => rfl) fun h1 H => nn ?_
      refine stR_ok (j := 13) { X with quiet := 0, heard := 0 } H rfl rfl rfl (fun _ _ => rfl) fun h1 H => ?_
      refine raft_most_ok H (or7 hh hi0 (by omega)) (brY (by rw [decide_eq_false (show ¬ mostB { X with quiet := 0, heard := 0 } _ from hm)]; rfl) (nn ?_))
      refine ldR_ok (j := 4) H X.term (fun _ _ => rfl) ?_
      refine raft_follow_ok H fun h3 H => nn ?_
      refine stR_ok (j := 8) { rFollow { X with quiet := 0, heard := 0 } X.term (-1) with since := 0 } H rfl rfl rfl (fun _ _ => rfl) fun h4 H => hR _ H
  · rw [if_neg hqe] at hR
    refine join0 (fun h2 => RaftAt h0 h2 d { X with quiet := X.quiet + 1 } F) (fun _ h2 H => beat (Y := { X with quiet := X.quiet + 1 }) (hb.of rfl rfl rfl rfl) ho H hR) ?_
    exact brN (decide_eq_false hqe) H
theorem raft_Tick_ok {draw : Int} {R : Heap → Prop} (H : RaftAt h0 h d X F) (hb : RB X) (hc0 : 0 ≤ X.commit) (ht : 0 ≤ X.term ∧ X.term ≤ 1099511627776) (hs : 0 ≤ X.since ∧ X.since ≤ 1000000000) (hq : 0 ≤ X.quiet ∧ X.quiet ≤ 1000000000) (he : 1 ≤ X.elect ∧ X.elect ≤ 1000) (hh : X.heard < 128) (ho : X.out.length ≤ 700000)
    (hR : ∀ h', RaftAt h0 h' d (rTick X draw) F → R h') : C_raft_Node_Tick (some ⟨d, 0, none⟩) draw h R := by
  refine A_raft_Node_Tick ?_
  unfold S_raft_Node_Tick
  unfold rTick at hR
  refine brF (nn (ldR_ok (j := 8) H X.since (fun _ _ => rfl) (nn ?_)))
  rw [w64 (by omega) (by omega)]
  refine stR_ok (j := 8) { X with since := X.since + 1 } H rfl rfl rfl (fun _ _ => rfl) fun h1 H => nn ?_
  refine ldR_ok (j := 6) H X.role (fun _ _ => rfl) ?_
  refine br beq_iff_eq (fun hr => ?_) fun hr => nn ?_
  · rw [if_pos hr] at hR
    exact raft_lead_ok H (hb.of rfl rfl rfl rfl) hq hh (by show X.out.length ≤ _; omega) hR
  · rw [if_neg hr] at hR
    refine ldR_ok (j := 4) H X.term (fun _ _ => rfl) ?_
    refine brD (fun h2 => nn ?_) fun h2 => ?_
    · refine ldR_ok (j := 8) H (X.since + 1) (fun _ _ => rfl) (nn (ldR_ok (j := 2) H X.elect (fun _ _ => rfl) (nn (ldR_ok (j := 2) H X.elect (fun _ _ => rfl) ?_))))
      refine nz (by omega) ?_
      generalize hdr : (if 0 > draw then 0 else draw) = dr at hR ⊢
      have hdr0 : 0 ≤ dr := by split at hdr <;> omega
      rw [rem_nonneg hdr0]
      have h3 := Int.emod_nonneg dr (show X.elect ≠ 0 by omega)
      have h4 := Int.emod_lt_of_pos dr (show 0 < X.elect by omega)
      rw [w64 (by omega) (by omega)]
      refine brD (fun h5 => ?_) fun h5 => ?_
      · rw [if_pos ⟨h2, h5⟩] at hR
        exact raft_asks_ok H (hb.of rfl rfl rfl rfl) hc0 ht (by show X.out.length ≤ _; omega) hR
      · rw [if_neg fun x => h5 x.2] at hR
        exact hR _ H
    · rw [if_neg fun x => h2 x.1] at hR
      exact hR _ H
theorem raft_Propose_ok {data : ByteArray} {R : Int → Int → Heap → Prop} (H : RaftAt h0 h d X F) (hb : RB X) (hc0 : 0 ≤ X.commit) (ho : X.out.length ≤ 700000) (hl2 : (rAdd X data).1.log.length ≤ 100000)
    (hR : ∀ h', RaftAt h0 h' d (rPropose X data).1 F → R (rPropose X data).2.1 (rPropose X data).2.2 h') : C_raft_Node_Propose (some ⟨d, 0, none⟩) data h R := by
  refine A_raft_Node_Propose ?_
  unfold S_raft_Node_Propose
  unfold rPropose at hR
  refine brF (nn (ldR_ok (j := 6) H X.role (fun _ _ => rfl) ?_))
  refine br bne_iff_ne (fun hr => ?_) fun hr => ?_
  · rw [if_pos hr] at hR; exact hR _ H
  · rw [if_neg hr] at hR
    refine brD (fun h1 => ?_) fun h1 => ?_
    · rw [if_pos (by omega)] at hR; exact hR _ H
    · rw [if_neg (by omega)] at hR
      refine raft_add_ok H hb hc0 (by omega) fun h2 H => ?_
      refine br bne_iff_ne (fun h3 => ?_) fun h3 => ?_
      · rw [if_pos h3] at hR; exact hR _ H
      · rw [if_neg h3] at hR
        exact raft_Last_ok H hl2 (hR _ H)
theorem raft_Role_ok {R : Int → Heap → Prop} (H : RaftAt h0 h d X F) (hR : R X.role h) : C_raft_Node_Role (some ⟨d, 0, none⟩) h R := by
  refine A_raft_Node_Role ?_
  unfold S_raft_Node_Role
  exact brF (nn (ldR_ok (j := 6) H X.role (fun _ _ => rfl) hR))
theorem raft_Term_ok {R : Int → Heap → Prop} (H : RaftAt h0 h d X F) (hR : R X.term h) : C_raft_Node_Term (some ⟨d, 0, none⟩) h R := by
  refine A_raft_Node_Term ?_
  unfold S_raft_Node_Term
  exact brF (nn (ldR_ok (j := 4) H X.term (fun _ _ => rfl) hR))
theorem raft_Commit_ok {R : Int → Heap → Prop} (H : RaftAt h0 h d X F) (hR : R X.commit h) : C_raft_Node_Commit (some ⟨d, 0, none⟩) h R := by
  refine A_raft_Node_Commit ?_
  unfold S_raft_Node_Commit
  exact brF (nn (ldR_ok (j := 10) H X.commit (fun _ _ => rfl) hR))
theorem raft_Leader_ok {R : Int → Heap → Prop} (H : RaftAt h0 h d X F) (hR : R X.leader h) : C_raft_Node_Leader (some ⟨d, 0, none⟩) h R := by
  refine A_raft_Node_Leader ?_
  unfold S_raft_Node_Leader
  exact brF (nn (ldR_ok (j := 7) H X.leader (fun _ _ => rfl) hR))
def committedM (X : RN) (from_ : Int) : List RE := if (if 1 > from_ then 1 else from_) > X.commit then [] else fromL X.log (if 1 > from_ then 1 else from_) (X.commit - (if 1 > from_ then 1 else from_) + 1)
theorem raft_Committed_ok {from_ : Int} {R : Sl → Heap → Prop} (H : RaftAt h0 h d X F) (hl : X.log.length ≤ 1024) (hc : X.commit ≤ 1024)
    (hR : ∀ r h', RaftAt h0 h' d X (.own r 2 (eRE.fl (committedM X from_)) :: F) → R r h') : C_raft_Node_Committed (some ⟨d, 0, none⟩) from_ h R := by
  refine A_raft_Node_Committed ?_
  unfold S_raft_Node_Committed
  unfold committedM at hR
  refine brF (let_ (nn (ldR_ok (j := 10) H X.commit (fun _ _ => rfl) ?_)))
  generalize hf : (if 1 > from_ then 1 else from_) = f at hR ⊢
  have hf1 : 1 ≤ f := by split at hf <;> omega
  refine brD (fun h1 => ?_) fun h1 => nn ?_
  · rw [if_pos h1] at hR
    exact hR _ _ (H.nil 2)
  · rw [if_neg h1] at hR
    obtain ⟨ty, lg, tl, sl, so, z, hz, H⟩ := H
    refine ldAt (j := 11) H 0 rfl (some ⟨lg, 0, none⟩) rfl (nn ?_)
    repeat (first | with_reducible refine nn ?_ | with_reducible refine let_ ?_ | with_reducible refine brSome ?_ | with_reducible refine brF ?_ | with_reducible refine brT ?_ | ((with_reducible apply ldAt H 0); exact rfl; exact rfl) | ((with_reducible apply ldAt0 H 0); exact rfl; exact rfl) | ((with_reducible apply stAt H 0); exact rfl; exact rfl; intro h H) | ((with_reducible apply stAt0 H 0); exact rfl; exact rfl; intro h H) | ((with_reducible refine ⟨?_, ?_⟩); first | ((with_reducible apply ldAt H 0); exact rfl; exact rfl; exact rfl) | ((with_reducible apply ldAt0 H 0); exact rfl; exact rfl; exact rfl)))
    rw [w64 (n := X.commit - f) (by omega) (by omega), w64 (by omega) (by omega)]
    refine log_From_ok H 1 rfl 2 rfl (by omega) (by omega) (by omega) fun r h H => ?_
    exact hR r h ⟨ty, lg, tl, sl, so, z, hz, H.mv 1 4⟩
/-- What was sent since: the row and each one's entries are the caller's. -/
theorem raft_Out_ok {R : Sl → Heap → Prop} (H : RaftAt h0 h d X F) (hR : ∀ so z h', z.map Prod.fst = X.out → RaftAt h0 h' d { X with out := [] } (.own so 9 (eMS.fl z) :: (F ++ entsR z)) → R so h') : C_raft_Node_Out (some ⟨d, 0, none⟩) h R := by
  refine A_raft_Node_Out ?_
  unfold S_raft_Node_Out
  obtain ⟨ty, lg, tl, sl, so, z, hz, H⟩ := H
  refine brF ?_
  repeat (first | with_reducible refine nn ?_ | with_reducible refine let_ ?_ | with_reducible refine brSome ?_ | with_reducible refine brF ?_ | with_reducible refine brT ?_ | ((with_reducible apply ldAt H 0); exact rfl; exact rfl) | ((with_reducible apply ldAt0 H 0); exact rfl; exact rfl) | ((with_reducible apply stAt H 0); exact rfl; exact rfl; intro h H) | ((with_reducible apply stAt0 H 0); exact rfl; exact rfl; intro h H) | ((with_reducible refine ⟨?_, ?_⟩); first | ((with_reducible apply ldAt H 0); exact rfl; exact rfl; exact rfl) | ((with_reducible apply ldAt0 H 0); exact rfl; exact rfl; exact rfl)))
  refine hR so z h hz ⟨ty, lg, tl, sl, ⟨none, 0, 0⟩, [], rfl, ?_⟩
  have H := (H.nil 9).mv 1 3
  rw [show entsR [] = [] from rfl, List.append_nil]
  exact H
theorem raft_State_ok {R : KL [.int .i64, .int .i64, .sl] → Heap → Prop} (H : RaftAt h0 h d X F) (hl : X.log.length ≤ 100000) (hR : ∀ r h', RaftAt h0 h' d X (.own r 2 (eRE.fl X.log) :: F) → R (X.term, X.vote, r, ()) h') : C_raft_Node_State (some ⟨d, 0, none⟩) h R := by
  refine A_raft_Node_State ?_
  unfold S_raft_Node_State
  obtain ⟨ty, lg, tl, sl, so, z, hz, H⟩ := H
  refine allocAt (cs := [.int .i64 0, .int .i64 0, .slice none 0 0]) H fun h b H => ?_
  refine brF ?_
  repeat (first | with_reducible refine nn ?_ | with_reducible refine let_ ?_ | with_reducible refine brSome ?_ | with_reducible refine brF ?_ | with_reducible refine brT ?_ | ((with_reducible apply ldAt H 1); exact rfl; exact rfl) | ((with_reducible apply ldAt0 H 1); exact rfl; exact rfl) | ((with_reducible apply stAt H 1); exact rfl; exact rfl; intro h H) | ((with_reducible apply stAt0 H 1); exact rfl; exact rfl; intro h H) | ((with_reducible refine ⟨?_, ?_⟩); first | ((with_reducible apply ldAt H 1); exact rfl; exact rfl; exact rfl) | ((with_reducible apply ldAt0 H 1); exact rfl; exact rfl; exact rfl)))
  refine log_All_ok H 2 rfl 3 rfl hl fun r h H => ?_
  repeat (first | with_reducible refine nn ?_ | with_reducible refine let_ ?_ | with_reducible refine brSome ?_ | with_reducible refine brF ?_ | with_reducible refine brT ?_ | ((with_reducible apply ldAt H 1); exact rfl; exact rfl) | ((with_reducible apply ldAt0 H 1); exact rfl; exact rfl) | ((with_reducible apply ldAt H 2); exact rfl; exact rfl) | ((with_reducible apply ldAt0 H 2); exact rfl; exact rfl) | ((with_reducible apply stAt H 1); exact rfl; exact rfl; intro h H) | ((with_reducible apply stAt0 H 1); exact rfl; exact rfl; intro h H) | ((with_reducible apply stAt H 2); exact rfl; exact rfl; intro h H) | ((with_reducible apply stAt0 H 2); exact rfl; exact rfl; intro h H) | ((with_reducible refine ⟨?_, ?_⟩); first | ((with_reducible apply ldAt H 1); exact rfl; exact rfl; exact rfl) | ((with_reducible apply ldAt0 H 1); exact rfl; exact rfl; exact rfl) | ((with_reducible apply ldAt H 2); exact rfl; exact rfl; exact rfl) | ((with_reducible apply ldAt0 H 2); exact rfl; exact rfl; exact rfl)))
  exact hR r h ⟨ty, lg, tl, sl, so, z, hz, (H.del 1).mv 1 4⟩
end
end Go.Proofs.Ytniojdaddolnfaa
