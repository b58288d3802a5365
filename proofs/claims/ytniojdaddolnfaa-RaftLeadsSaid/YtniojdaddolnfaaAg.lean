/-
  Layer 8 (raft): a node alone; what the document fixes; RaftAlone over the heap alone.
-/
import Derived.Test.YtniojdaddolnfaaAf
import Derived.Test.YtniojdaddolnfaaH
namespace Go.Proofs.Ytniojdaddolnfaa
open Go

/-! ## A node alone -/
def waitS (e i : Int) : RN := { rNew 0 1 e 1 0 (-1) [] with since := i }
def aloneS (e : Int) (l : List ByteArray) : RN :=
  ⟨0, 1, e, 1, 1, 0, 3, 0, 0, 0, ((l.length + 1 : Nat) : Int), 1, 0, fun t => if (t : Int) < 1 then (1 : Int) else 0, fun t => if (t : Int) < 1 then (0 : Int) else 0, ⟨1, ⟨#[]⟩⟩ :: l.map fun d => ⟨1, d⟩, [], true, 1⟩
theorem asks_alone (e i : Int) : rAsks (waitS e i) = aloneS e [] := by kernel_rfl
theorem tick_alone (e i draw : Int) (hd : 0 ≤ draw) : rTick (waitS e i) draw = if i + 1 ≥ e + draw % e then aloneS e [] else waitS e (i + 1) := by
  unfold rTick
  rw [if_neg (show ¬ (waitS e i).role = 3 from (by decide : ¬ (0 : Int) = 3)), if_neg (show ¬ 0 > draw by omega)]
  by_cases h : i + 1 ≥ e + draw % e
  · rw [if_pos ⟨(by decide : (0 : Int) < 1099511627776), h⟩, if_pos h]
    exact asks_alone e (i + 1)
  · rw [if_neg fun x => h x.2, if_neg h]; rfl
theorem lastT_alone (l : List ByteArray) : lastT ((⟨1, ⟨#[]⟩⟩ : RE) :: l.map fun d => ⟨1, d⟩) = 1 := by
  rw [lastT_get (by simp)]
  have : ∀ e ∈ ((⟨1, ⟨#[]⟩⟩ : RE) :: l.map fun d => ⟨1, d⟩), e.term = 1 := fun e he => by
    rcases List.mem_cons.1 he with rfl | he
    · rfl
    · obtain ⟨d, _, rfl⟩ := List.mem_map.1 he; rfl
  exact this _ (List.getElem_mem _)
theorem term_alone (l : List ByteArray) {k : Nat} (h : k ≤ l.length) : (termAt ((⟨1, ⟨#[]⟩⟩ : RE) :: l.map fun d => ⟨1, d⟩) ((k + 1 : Nat) : Int)).1 = 1 := by
  unfold termAt
  rw [if_neg (by simp; omega), if_neg (by omega)]
  show ((_ : List RE)[((k + 1 : Nat) : Int).toNat - 1]?.map _).getD 0 = 1
  rw [Int.toNat_natCast, Nat.add_sub_cancel]
  cases k with
  | zero => rfl
  | succ k => rw [List.getElem?_cons_succ, List.getElem?_map, List.getElem?_eq_getElem (by omega)]; rfl
theorem others_alone {X : RN} (h1 : X.id = 0) : others X 1 = [] := by
  unfold others
  rw [show List.range 1 = [0] from rfl, List.filter_cons_of_neg (by simp [h1])]; rfl
theorem cnt_alone {X : RN} (h1 : X.id = 0) (h2 : X.n = 1) (i : Int) : cntG X i = 1 := by
  unfold cntG
  rw [h2, show List.range (1 : Int).toNat = [0] from rfl, List.filter_cons_of_pos (by simp [h1])]; rfl
theorem toAll_alone {X : RN} (h1 : X.id = 0) (h2 : X.n = 1) : rToAll X = { X with since := 0 } := by
  unfold rToAll
  rw [h2, show (1 : Int).toNat = 1 from rfl, others_alone h1, List.map_nil, List.append_nil]
theorem add_alone (e : Int) (l : List ByteArray) (x : ByteArray) (hl : l.length + 1 < 1024) : rAdd (aloneS e l) x = (aloneS e (l ++ [x]), 0) := by
  unfold rAdd
  rw [if_neg (by show ¬ (1 : Int) < lastT ((⟨1, ⟨#[]⟩⟩ : RE) :: l.map fun d => ⟨1, d⟩); rw [lastT_alone]; decide), if_neg (by show ¬ ((⟨1, ⟨#[]⟩⟩ : RE) :: l.map fun d => (⟨1, d⟩ : RE)).length ≥ 1024; rw [List.length_cons, List.length_map]; omega)]
  have hlog : ((⟨1, ⟨#[]⟩⟩ : RE) :: l.map fun d => (⟨1, d⟩ : RE)) ++ [⟨1, x⟩] = (⟨1, ⟨#[]⟩⟩ : RE) :: (l ++ [x]).map fun d => ⟨1, d⟩ := by rw [List.map_append]; rfl
  have hd : rDirty { aloneS e l with log := (aloneS e l).log ++ [⟨(aloneS e l).term, x⟩] } (((aloneS e l).log.length : Int) + 1) = { aloneS e l with log := (⟨1, ⟨#[]⟩⟩ : RE) :: (l ++ [x]).map fun d => ⟨1, d⟩ } := by
    unfold rDirty
    show ({ aloneS e l with log := _, from_ := if (1 : Int) = 0 ∨ ((((⟨1, ⟨#[]⟩⟩ : RE) :: l.map fun d => (⟨1, d⟩ : RE)).length : Nat) : Int) + 1 < 1 then _ else (1 : Int) } : RN) = _
    rw [if_neg (by omega), ← hlog]
    rfl
  rw [hd, toAll_alone rfl rfl]
  congr 1
  unfold rAgree
  have hlen : ((⟨1, ⟨#[]⟩⟩ : RE) :: (l ++ [x]).map fun d => (⟨1, d⟩ : RE)).length = (l.length + 1) + 1 := by rw [List.length_cons, List.length_map, List.length_append, List.length_singleton]
  show (match agreeAt { aloneS e l with log := _, since := 0 } ((⟨1, ⟨#[]⟩⟩ : RE) :: (l ++ [x]).map fun d => (⟨1, d⟩ : RE)).length with
    | none => _
    | some c => _) = _
  rw [hlen, agree_succ]
  rw [if_neg (by show ¬ ((l.length + 1 + 1 : Nat) : Int) ≤ ((l.length + 1 : Nat) : Int); omega)]
  rw [if_neg (by show ¬ (termAt ((⟨1, ⟨#[]⟩⟩ : RE) :: (l ++ [x]).map fun d => ⟨1, d⟩) ((l.length + 1 + 1 : Nat) : Int)).1 ≠ 1; rw [term_alone (l ++ [x]) (by rw [List.length_append, List.length_singleton]; omega)]; decide)]
  rw [cnt_alone rfl rfl, if_pos (by show (2 : Int) * ((1 : Nat) : Int) > 1; decide)]
  show rToAll _ = _
  rw [toAll_alone rfl rfl]
  unfold aloneS
  rw [List.length_append, List.length_singleton]
theorem propose_alone (e : Int) (l : List ByteArray) (x : ByteArray) (hl : l.length + 1 < 1024) (hx : x.size ≤ 512) : rPropose (aloneS e l) x = (aloneS e (l ++ [x]), ((l.length + 2 : Nat) : Int), 0) := by
  unfold rPropose
  rw [if_neg (show ¬ (aloneS e l).role ≠ 3 from fun h => h rfl), if_neg (by omega), add_alone e l x hl, if_neg (fun h => h rfl)]
  show (aloneS e (l ++ [x]), ((((⟨1, ⟨#[]⟩⟩ : RE) :: (l ++ [x]).map fun d => (⟨1, d⟩ : RE)).length : Nat) : Int), (0 : Int)) = _
  rw [List.length_cons, List.length_map, List.length_append, List.length_singleton]
theorem committed_alone (e : Int) (l : List ByteArray) (x : ByteArray) : committedM (aloneS e (l ++ [x])) ((l.length : Int) + 2) = [⟨1, x⟩] := by
  unfold committedM
  rw [show (if (1 : Int) > (l.length : Int) + 2 then 1 else (l.length : Int) + 2) = (l.length : Int) + 2 from if_neg (by omega)]
  have hc : (aloneS e (l ++ [x])).commit = (l.length : Int) + 2 := by
    show (((l ++ [x]).length + 1 : Nat) : Int) = _
    rw [List.length_append, List.length_singleton]; omega
  rw [hc, if_neg (by omega), show (l.length : Int) + 2 - ((l.length : Int) + 2) + 1 = 1 by omega]
  unfold fromL
  rw [if_neg (by omega)]
  show ((((⟨1, ⟨#[]⟩⟩ : RE) :: (l ++ [x]).map fun d => (⟨1, d⟩ : RE)).drop (((l.length : Int) + 2).toNat - 1)).take 1) = _
  rw [show ((l.length : Int) + 2).toNat - 1 = l.length + 1 by omega, List.drop_succ_cons, List.map_append, List.drop_append_of_le_length (by rw [List.length_map]; exact Nat.le_refl _), List.drop_of_length_le (by rw [List.length_map]; exact Nat.le_refl _)]
  rfl
theorem rb_wait (e i : Int) : RB (waitS e i) := ⟨(by decide : (1 : Int) ≤ 1), (by decide : (1 : Int) ≤ 7), (by decide : (0 : Int) ≤ 0), (by decide : (0 : Int) < 1), fun t => ⟨Int.le_refl _, by show (0 : Int) ≤ 1025; decide⟩, Nat.zero_le _⟩
theorem rb_alone (e : Int) (l : List ByteArray) (hl : l.length + 1 ≤ 1024) : RB (aloneS e l) := ⟨(by decide : (1 : Int) ≤ 1), (by decide : (1 : Int) ≤ 7), (by decide : (0 : Int) ≤ 0), (by decide : (0 : Int) < 1), fun t => by
  show 0 ≤ (if (t : Int) < 1 then (1 : Int) else 0) ∧ (if (t : Int) < 1 then (1 : Int) else 0) ≤ 1025
  split <;> decide, by show ((⟨1, ⟨#[]⟩⟩ : RE) :: l.map fun d => (⟨1, d⟩ : RE)).length ≤ 1024; rw [List.length_cons, List.length_map]; exact hl⟩
/-! ## fixed -/
section
variable {h : Heap}
theorem raft_Propose_nil {R : Int → Int → Heap → Prop} (hR : R 0 1 h) : C_raft_Node_Propose none ⟨#[]⟩ h R := A_raft_Node_Propose hR
theorem raft_Leader_nil {R : Int → Heap → Prop} (hR : R (-1) h) : C_raft_Node_Leader none h R := A_raft_Node_Leader hR
def voteM : RM := ⟨3, 0, 1, 4, 0, 0, 0, false, []⟩
def votedS : RN := ⟨1, 3, 5, 1, 4, 0, 0, -1, 0, 0, 0, 0, 0, fun _ => 0, fun _ => 0, [], [⟨4, 1, 0, 4, 0, 0, 0, true, []⟩], true, 0⟩
theorem vote_step : rStep (rNew 1 3 5 1 0 (-1) []) voteM = votedS := rfl
theorem okS_nil : okS 0 (-1) [] := ⟨trivial, by decide, by decide, by decide, by decide, by decide⟩
theorem rds_nil {h : Heap} : RdS h 2 ⟨none, 0, 0⟩ (eRE.fl []) := ⟨rfl, fun h => absurd h (by decide)⟩
def savedS : RN := { aloneS 2 [⟨#[104, 105]⟩] with hard := false, from_ := 0 }
theorem rb_y : RB (rNew 1 3 5 1 0 (-1) []) := ⟨by decide, by decide, by decide, by decide, fun t => ⟨Int.le_refl _, by show (0 : Int) ≤ 1025; decide⟩, Nat.zero_le _⟩
theorem rb_y2 : RB { votedS with out := [] } := ⟨by decide, by decide, by decide, by decide, fun t => ⟨Int.le_refl _, by show (0 : Int) ≤ 1025; decide⟩, Nat.zero_le _⟩
set_option maxHeartbeats 1600000 in
theorem law08_fixed_ok {hB : Heap} {R : Bool → Heap → Prop} (hR : ∀ h', Ext hB.size hB h' → R true h') : C_law08_fixed hB R := by
  refine A_law08_fixed ?_
  unfold S_law08_fixed
  refine raft_New_ok (At.start hB) rds_nil (by decide) (fun hb => by omega) (fun hn => absurd okS_nil hn) fun _ _ h1 d H => ?_
  have H : RaftAt hB h1 d (waitS 2 0) [] := H
  refine raft_Tick_ok H (rb_wait 2 0) (by decide) ⟨by decide, by decide⟩ ⟨by decide, by decide⟩ ⟨by decide, by decide⟩ ⟨by decide, by decide⟩ (by decide) (by decide) fun h2 H => ?_
  rw [tick_alone 2 0 0 (by decide), if_neg (by decide)] at H
  refine raft_Role_ok H ?_
  refine raft_Tick_ok H (rb_wait 2 (0 + 1)) (by decide) ⟨by decide, by decide⟩ ⟨by decide, by decide⟩ ⟨by decide, by decide⟩ ⟨by decide, by decide⟩ (by decide) (by decide) fun h3 H => ?_
  rw [tick_alone 2 (0 + 1) 0 (by decide), if_pos (by decide)] at H
  have hp := propose_alone 2 [] (⟨#[104, 105]⟩ : ByteArray) (by decide) (by decide)
  have ha := add_alone 2 [] (⟨#[104, 105]⟩ : ByteArray) (by decide)
  refine raft_Propose_ok H (rb_alone 2 [] (by decide)) (by decide) (by decide) (by rw [ha]; decide) fun h4 H => ?_
  rw [hp] at H ⊢
  have H : RaftAt hB h4 d (aloneS 2 [⟨#[104, 105]⟩]) [] := H
  refine raft_Save_ok H (by decide) ⟨by decide, by decide⟩ (fun x => by cases x) fun _ r5 h5 H => ?_
  have H : RaftAt hB h5 d savedS [.own r5 2 (eRE.fl [⟨1, ⟨#[]⟩⟩, ⟨1, ⟨#[104, 105]⟩⟩])] := H
  have hr5 := H.ats.n 0 rfl
  refine RaftAt.alloc (cs := [.bool false, .int .i64 0, .int .i64 0, .int .i64 0, .slice none 0 0]) H fun h6 b H => ?_
  obtain ⟨ty, lg, tl, sl, so, z, hz, H⟩ := H
  repeat (first | with_reducible refine nn ?_ | with_reducible refine let_ ?_ | with_reducible refine brSome ?_ | with_reducible refine brF ?_ | with_reducible refine brT ?_ | ((with_reducible apply ldAt H 4); exact rfl; exact rfl) | ((with_reducible apply ldAt0 H 4); exact rfl; exact rfl) | ((with_reducible apply stAt H 4); exact rfl; exact rfl; intro h H) | ((with_reducible apply stAt0 H 4); exact rfl; exact rfl; intro h H) | ((with_reducible refine ⟨?_, ?_⟩); first | ((with_reducible apply ldAt H 4); exact rfl; exact rfl; exact rfl) | ((with_reducible apply ldAt0 H 4); exact rfl; exact rfl; exact rfl)))
  have H : RaftAt hB _ d savedS [.blk b 55 [.bool true, .int .i64 1, .int .i64 0, .int .i64 1, .slice r5.a r5.n r5.c], .own r5 2 (eRE.fl [⟨1, ⟨#[]⟩⟩, ⟨1, ⟨#[104, 105]⟩⟩])] := ⟨ty, lg, tl, sl, so, z, hz, H⟩
  refine raft_Save_ok H (by decide) ⟨by decide, by decide⟩ (fun _ _ h7 H => ?_) fun hno => absurd ⟨rfl, rfl⟩ hno
  refine RaftAt.alloc (cs := [.bool false, .int .i64 0, .int .i64 0, .int .i64 0, .slice none 0 0]) H fun h8 b2 H => ?_
  obtain ⟨ty, lg, tl, sl, so, z, hz, H⟩ := H
  repeat (first | with_reducible refine nn ?_ | with_reducible refine let_ ?_ | with_reducible refine brSome ?_ | with_reducible refine brF ?_ | with_reducible refine brT ?_ | ((with_reducible apply ldAt H 4); exact rfl; exact rfl) | ((with_reducible apply ldAt0 H 4); exact rfl; exact rfl) | ((with_reducible apply stAt H 4); exact rfl; exact rfl; intro h H) | ((with_reducible apply stAt0 H 4); exact rfl; exact rfl; intro h H) | ((with_reducible refine ⟨?_, ?_⟩); first | ((with_reducible apply ldAt H 4); exact rfl; exact rfl; exact rfl) | ((with_reducible apply ldAt0 H 4); exact rfl; exact rfl; exact rfl)))
  have H : RaftAt hB _ d savedS [.blk b 55 [.bool true, .int .i64 1, .int .i64 0, .int .i64 1, .slice r5.a r5.n r5.c], .own r5 2 (eRE.fl [⟨1, ⟨#[]⟩⟩, ⟨1, ⟨#[104, 105]⟩⟩])] := ⟨ty, lg, tl, sl, so, z, hz, H.del 4⟩
  refine raft_Committed_ok H (by decide) (by decide) fun r9 h9 H => ?_
  have H : RaftAt hB h9 d savedS [.own r9 2 (eRE.fl [⟨1, ⟨#[104, 105]⟩⟩]), .blk b 55 [.bool true, .int .i64 1, .int .i64 0, .int .i64 1, .slice r5.a r5.n r5.c], .own r5 2 (eRE.fl [⟨1, ⟨#[]⟩⟩, ⟨1, ⟨#[104, 105]⟩⟩])] := H
  have hr9 := H.ats.n 0 rfl
  obtain ⟨L, H, back⟩ := H.un
  refine raft_New_ok H rds_nil (by decide) (fun hb => by omega) (fun hn => absurd okS_nil hn) fun _ _ h10 d2 H => ?_
  refine raft_Step_ok (m := voteM) H rb_y (by decide) ⟨by decide, by decide⟩ (by decide) (by decide) (fun t => ⟨Int.le_refl _, by show (0 : Int) ≤ 1024; decide⟩) (by decide) rfl (by decide) fun h11 H => ?_
  rw [vote_step] at H
  refine raft_Out_ok H fun r12 z2 h12 hz2 H => ?_
  have hr12 := H.ats.n 0 rfl
  have hzl : z2.length = 1 := by rw [← List.length_map (f := Prod.fst), hz2]; rfl
  refine raft_Propose_ok H rb_y2 (by decide) (by decide) (by decide) fun h13 H => ?_
  have hp2 : rPropose { votedS with out := [] } (⟨#[120]⟩ : ByteArray) = ({ votedS with out := [] }, 0, 13) := rfl
  rw [hp2] at H ⊢
  obtain ⟨L2, H, back2⟩ := H.un
  refine raft_New_ok H rds_nil (by decide) (fun _ h14 H => ?_) (fun hn => absurd okS_nil hn) fun _ hno => absurd (by omega) hno
  have H2 := back2 _ H
  have A2 := H2.ats
  have H1 := back _ (A2.sub ((List.sublist_append_left ..).trans (List.sublist_cons_self ..)))
  have A1 := H1.ats
  refine raft_Propose_nil ?_
  refine brY rfl (brY rfl (raft_Role_ok H1 (brY rfl (brY rfl (brY rfl (raft_Commit_ok H1 (brY rfl (brY rfl ?_))))))))
  refine ldAt0 A1 1 rfl true rfl (brT ?_)
  refine ldAt (j := 1) A1 1 rfl (1 : Int) rfl (brY rfl (ldAt (j := 2) A1 1 rfl (0 : Int) rfl (brY rfl (ldAt (j := 3) A1 1 rfl (1 : Int) rfl (brY rfl (ldAt (j := 4) A1 1 rfl r5 rfl ?_))))))
  refine brY (by rw [hr5]; rfl) (brY rfl (brY (by rw [hr9]; rfl) ?_))
  refine ixAt (E := eRE) (l := [⟨1, ⟨#[104, 105]⟩⟩]) A1 0 rfl 0 rfl (by decide) fun e he => ?_
  refine ldEl (E := eRE) (l := [⟨1, ⟨#[104, 105]⟩⟩]) (j := 1) A1 0 rfl he (by decide) (⟨#[104, 105]⟩ : ByteArray) rfl (brY (by simp) ?_)
  refine brY (by rw [hr12, hzl]; rfl) ?_
  refine ixAt (E := eMS) A2 0 rfl 0 rfl (by omega) fun e he => ?_
  refine ldEl (E := eMS) (j := 7) A2 0 rfl he (by omega) true (by
    have e0 : (z2[0]'(by omega)).1 = ⟨4, 1, 0, 4, 0, 0, 0, true, []⟩ := by
      have : (z2.map Prod.fst)[0]'(by rw [List.length_map]; omega) = ⟨4, 1, 0, 4, 0, 0, 0, true, []⟩ := by simp only [hz2]; rfl
      rwa [List.getElem_map] at this
    show some (Value.bool (z2[0]'(by omega)).1.yes) = _
    rw [e0]) (brT ?_)
  refine raft_Term_ok H2 (brY rfl (brY rfl (brY rfl (brY rfl (raft_Leader_nil ?_)))))
  exact hR _ A1.ext
end
end Go.Proofs.Ytniojdaddolnfaa
