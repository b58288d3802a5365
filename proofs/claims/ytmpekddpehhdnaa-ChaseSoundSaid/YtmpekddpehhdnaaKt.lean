/-
  Layer 14 (chase): ChaseSound and ChaseAll over the heap alone.
-/
import Derived.Test.YtmpekddpehhdnaaKm
import Derived.Test.YtmpekddpehhdnaaKg
namespace Go.Proofs.Ytmpekddpehhdnaa
open Go

section
variable {C : CF} {s k : Nat}
theorem settle_succ (m : Nat) (C : CF) : ((settleM m C).fl = [] ∧ settleM (m + 1) C = settleM m C) ∨ ((settleM m C).fl ≠ [] ∧ settleM (m + 1) C = (kDeliver (settleM m C) 0).1) := by
  show (_ ∧ (if (settleM m C).fl = [] then settleM m C else (kDeliver (settleM m C) 0).1) = _) ∨ (_ ∧ (if (settleM m C).fl = [] then settleM m C else (kDeliver (settleM m C) 0).1) = _)
  by_cases h : (settleM m C).fl = []
  · exact .inl ⟨h, if_pos h⟩
  · exact .inr ⟨h, if_neg h⟩
theorem settle_N (C : CF) : ∀ m, (settleM m C).N = C.N
  | 0 => rfl
  | m + 1 => by
    rcases settle_succ m C with ⟨_, e⟩ | ⟨_, e⟩
    · rw [e]; exact settle_N C m
    · rw [e, deliver_N]; exact settle_N C m
theorem settle_vs (C : CF) : ∀ m, ∀ v ∈ C.vs, v ∈ (settleM m C).vs
  | 0 => fun _ h => h
  | m + 1 => fun v hv => by
    rcases settle_succ m C with ⟨_, e⟩ | ⟨_, e⟩
    · rw [e]; exact settle_vs C m v hv
    · rw [e]; exact deliver_vs _ _ v (settle_vs C m v hv)
theorem KSnd.settle (h : KSnd C) (ho : COk s k C) : ∀ m, KSnd (settleM m C)
  | 0 => h
  | m + 1 => by
    rcases settle_succ m C with ⟨_, e⟩ | ⟨_, e⟩
    · rw [e]; exact KSnd.settle h ho m
    · rw [e]; exact (KSnd.settle h ho m).deliver (ho.settle m) 0
theorem cov_settle (ho : COk s k C) {x : Int} (hc : Cov x (nd C.N x).round C) : ∀ m, Cov x (nd C.N x).round (settleM m C)
  | 0 => hc
  | m + 1 => by
    have ih := cov_settle ho hc m
    rcases settle_succ m C with ⟨_, e⟩ | ⟨hne, e⟩
    · rw [e]; exact ih
    · rw [e]
      have hN := settle_N C m
      rw [← hN] at ih ⊢
      exact cov_deliver (ho.settle m) ih hne
theorem pot_settle (ho : COk s k C) : ∀ m, pot (settleM m C) ≤ pot C ∧ ((settleM m C).fl = [] ∨ pot (settleM m C) + m ≤ pot C)
  | 0 => ⟨Nat.le_refl _, .inr (Nat.le_refl _)⟩
  | m + 1 => by
    obtain ⟨h1, h2⟩ := pot_settle ho m
    rcases settle_succ m C with ⟨h0, e⟩ | ⟨hne, e⟩
    · rw [e]; exact ⟨h1, .inl h0⟩
    · rw [e]
      obtain ⟨p, l, hl⟩ := fl_head hne
      have h3 := pot_dlv (ho.settle m) hl
      have h4 := h2.resolve_left hne
      exact ⟨by omega, .inr (by omega)⟩
theorem fl_pot (C : CF) : C.fl.length ≤ pot C := Nat.le_add_right _ _
/-- Nodes whose rounds alone may be others. -/
structure SameG (N N' : List CN) : Prop where
  ids : N'.map (·.id) = N.map (·.id)
  stamp : ∀ y, (nd N' y).stamp = (nd N y).stamp
  to : ∀ y, (nd N' y).to = (nd N y).to
theorem SameG.refl (N : List CN) : SameG N N := ⟨rfl, fun _ => rfl, fun _ => rfl⟩
theorem SameG.trans {N N' N'' : List CN} (h1 : SameG N N') (h2 : SameG N' N'') : SameG N N'' := ⟨h2.ids.trans h1.ids, fun y => (h2.stamp y).trans (h1.stamp y), fun y => (h2.to y).trans (h1.to y)⟩
theorem hasN_ids {N : List CN} {x : Int} : hasN N x ↔ x ∈ N.map (·.id) := by
  unfold hasN
  rw [List.mem_map]
theorem SameG.has {N N' : List CN} (h : SameG N N') (y : Int) : hasN N' y ↔ hasN N y := by rw [hasN_ids, hasN_ids, h.ids]
theorem SameG.eld {N N' : List CN} (h : SameG N N') (a b : Int) : eld N' a b ↔ eld N a b := by
  unfold Go.Proofs.Ytmpekddpehhdnaa.eld
  rw [h.stamp, h.stamp]
theorem SameG.edg {N N' : List CN} (h : SameG N N') (a b : Int) : edg N' a b ↔ edg N a b := by
  unfold Go.Proofs.Ytmpekddpehhdnaa.edg
  rw [h.to]
theorem SameG.ep {N N' : List CN} (h : SameG N N') {x t : Int} : EP N x t → EP N' x t := by
  intro h1
  induction h1 with
  | one h2 => exact .one ((h.edg _ _).2 h2)
  | step _ h3 h4 ih => exact .step ih ((h.eld _ _).2 h3) ((h.edg _ _).2 h4)
theorem SameG.symm {N N' : List CN} (h : SameG N N') : SameG N' N := ⟨h.ids.symm, fun y => (h.stamp y).symm, fun y => (h.to y).symm⟩
theorem begin_same (ho : COk s k C) (id : Int) : SameG C.N (kBegin C id).1.N := by
  unfold kBegin
  split
  · exact .refl _
  · rename_i hx
    have hx : hasN C.N id := Decidable.not_not.1 hx
    have e := nd_upd (f := fun n => { n with round := n.round + 1 }) (fun _ => rfl) ho.uniq hx
    refine ⟨map_upd (f := fun n => { n with round := n.round + 1 }) fun n => rfl, fun y => ?_, fun y => ?_⟩
    · show (nd (updN C.N id fun n => { n with round := n.round + 1 }) y).stamp = _
      rw [e]
      split
      · rename_i h; rw [h]
      · rfl
    · show (nd (updN C.N id fun n => { n with round := n.round + 1 }) y).to = _
      rw [e]
      split
      · rename_i h; rw [h]
      · rfl
theorem begin_round (ho : COk s k C) {x : Int} (hx : hasN C.N x) : (nd (kBegin C x).1.N x).round = (nd C.N x).round + 1 := by
  unfold kBegin
  rw [if_neg fun h => h hx]
  show (nd (updN C.N x fun n => { n with round := n.round + 1 }) x).round = _
  rw [nd_upd (f := fun n => { n with round := n.round + 1 }) (fun _ => rfl) ho.uniq hx, if_pos rfl]
/-- One begins, and all comes. -/
theorem begin_all (ho : COk s k C) (hs : KSnd C) {x : Int} (hx : hasN C.N x) {m : Nat} (hm : pot (kBegin C x).1 < m) :
    (settleM m (kBegin C x).1).fl = [] ∧ (EP C.N x x → x ∈ (settleM m (kBegin C x).1).vs) ∧ (∀ v ∈ C.vs, v ∈ (settleM m (kBegin C x).1).vs) ∧ SameG C.N (settleM m (kBegin C x).1).N ∧ pot (settleM m (kBegin C x).1) ≤ pot (kBegin C x).1 := by
  have ho1 := ho.begin_ x
  obtain ⟨p1, p2⟩ := pot_settle ho1 m
  have hfl := p2.resolve_right (by omega)
  have hsg : SameG C.N (settleM m (kBegin C x).1).N := by rw [settle_N]; exact begin_same ho x
  refine ⟨hfl, fun he => ?_, fun v hv => settle_vs _ m v (by rw [begin_vs]; exact hv), hsg, p1⟩
  have hc := cov_begin ho hx
  rw [← begin_round ho hx] at hc
  exact cov_end (cov_settle ho1 hc m) hfl (hsg.ep he)
end
/-! ## The graph -/
section
variable {h0 h : Heap} {F : List Res} {d dr s k N : Nat} {C C0 : CF}
theorem law14_graph_ok {ty : TypeId} {sN sE sH sF sV : Sl} {E : List CE} {Hd : List CS} {R : Option Addr → Heap → Prop} (H : FldAt h0 h d s k C (ref6 dr ty s sN sE sH sF sV C0 E Hd ++ F)) (hlen : C0.N.length ≤ 64)
    (hR : ∀ h' g tyg sG, FldAt h0 h' d s k C (gl g tyg sG sE C0.N E ++ F) → R (some ⟨g, 0, none⟩) h') : C_law14_graph (some ⟨dr, 0, none⟩) h R := by
  refine A_law14_graph ?_
  unfold S_law14_graph
  obtain ⟨X, H, back⟩ := H.raw
  have hsn := H.n 1 rfl
  repeat (first | with_reducible refine nn ?_ | with_reducible refine let_ ?_ | with_reducible refine brSome ?_ | with_reducible refine brF ?_ | with_reducible refine brT ?_ | ((with_reducible apply ldAt H 0); exact rfl; exact rfl) | ((with_reducible apply ldAt0 H 0); exact rfl; exact rfl) | ((with_reducible apply stAt H 0); exact rfl; exact rfl; intro h H) | ((with_reducible apply stAt0 H 0); exact rfl; exact rfl; intro h H) | ((with_reducible refine ⟨?_, ?_⟩); first | ((with_reducible apply ldAt H 0); exact rfl; exact rfl; exact rfl) | ((with_reducible apply ldAt0 H 0); exact rfl; exact rfl; exact rfl)))
  refine allocAt (cs := [.slice none 0 0, .slice sE.a sE.n sE.c]) (H.nil 2) fun h1 g H => ?_
  repeat (first | with_reducible refine nn ?_ | with_reducible refine let_ ?_ | with_reducible refine brSome ?_ | with_reducible refine brF ?_ | with_reducible refine brT ?_ | ((with_reducible apply ldAt H 0); exact rfl; exact rfl) | ((with_reducible apply ldAt0 H 0); exact rfl; exact rfl) | ((with_reducible apply ldAt H 1); exact rfl; exact rfl) | ((with_reducible apply ldAt0 H 1); exact rfl; exact rfl) | ((with_reducible apply ldAt H 2); exact rfl; exact rfl) | ((with_reducible apply ldAt0 H 2); exact rfl; exact rfl) | ((with_reducible apply stAt H 0); exact rfl; exact rfl; intro h H) | ((with_reducible apply stAt0 H 0); exact rfl; exact rfl; intro h H) | ((with_reducible apply stAt H 1); exact rfl; exact rfl; intro h H) | ((with_reducible apply stAt0 H 1); exact rfl; exact rfl; intro h H) | ((with_reducible apply stAt H 2); exact rfl; exact rfl; intro h H) | ((with_reducible apply stAt0 H 2); exact rfl; exact rfl; intro h H) | ((with_reducible refine ⟨?_, ?_⟩); first | ((with_reducible apply ldAt H 0); exact rfl; exact rfl; exact rfl) | ((with_reducible apply ldAt0 H 0); exact rfl; exact rfl; exact rfl) | ((with_reducible apply ldAt H 1); exact rfl; exact rfl; exact rfl) | ((with_reducible apply ldAt0 H 1); exact rfl; exact rfl; exact rfl) | ((with_reducible apply ldAt H 2); exact rfl; exact rfl; exact rfl) | ((with_reducible apply ldAt0 H 2); exact rfl; exact rfl; exact rfl)))
  refine loop1 (s1 := .one (.int .i64)) (fun (y : Int) h2 => ∃ (j : Nat) (sG : Sl), y = j ∧ j ≤ C0.N.length ∧ At h0 h2 (.blk g 160 [.slice sG.a sG.n sG.c, .slice sE.a sE.n sE.c] :: .own sG 2 (eGN.fl (C0.N.take j)) :: ((ref6 dr ty s sN sE sH sF sV C0 E Hd ++ F) ++ X))) (fun (y : Int) _ => (C0.N.length - y).toNat)
    ⟨0, ⟨none, 0, 0⟩, rfl, Nat.zero_le _, H⟩ fun _ (y : Int) h2 hI => ?_
  obtain ⟨j, sG, rfl, hj, H⟩ := hI
  refine brD (fun hc => ?_) fun hc => ?_
  · have hj2 : j < C0.N.length := by omega
    refine ixAt H 3 rfl j rfl hj2 fun e he => ?_
    repeat (first | with_reducible refine nn ?_ | with_reducible refine let_ ?_ | with_reducible refine brSome ?_ | with_reducible refine brF ?_ | with_reducible refine brT ?_ | ((with_reducible apply ldAt H 0); exact rfl; exact rfl) | ((with_reducible apply ldAt0 H 0); exact rfl; exact rfl) | ((with_reducible apply ldAt H 1); exact rfl; exact rfl) | ((with_reducible apply ldAt0 H 1); exact rfl; exact rfl) | ((with_reducible apply ldAt H 2); exact rfl; exact rfl) | ((with_reducible apply ldAt0 H 2); exact rfl; exact rfl) | ((with_reducible apply ldAt H 3); exact rfl; exact rfl) | ((with_reducible apply ldAt0 H 3); exact rfl; exact rfl) | ((with_reducible apply ldAt H 4); exact rfl; exact rfl) | ((with_reducible apply ldAt0 H 4); exact rfl; exact rfl) | ((with_reducible apply ldEl H 0); exact rfl; assumption; (case hk => assumption); exact rfl) | ((with_reducible apply ldEl0 H 0); exact rfl; assumption; (case hk => assumption); exact rfl) | ((with_reducible apply ldElS H 0); exact rfl; assumption; (case hk => assumption); exact rfl) | ((with_reducible apply ldElS0 H 0); exact rfl; assumption; (case hk => assumption); exact rfl) | ((with_reducible apply ldEl H 1); exact rfl; assumption; (case hk => assumption); exact rfl) | ((with_reducible apply ldEl0 H 1); exact rfl; assumption; (case hk => assumption); exact rfl) | ((with_reducible apply ldElS H 1); exact rfl; assumption; (case hk => assumption); exact rfl) | ((with_reducible apply ldElS0 H 1); exact rfl; assumption; (case hk => assumption); exact rfl) | ((with_reducible apply ldEl H 2); exact rfl; assumption; (case hk => assumption); exact rfl) | ((with_reducible apply ldEl0 H 2); exact rfl; assumption; (case hk => assumption); exact rfl) | ((with_reducible apply ldElS H 2); exact rfl; assumption; (case hk => assumption); exact rfl) | ((with_reducible apply ldElS0 H 2); exact rfl; assumption; (case hk => assumption); exact rfl) | ((with_reducible apply ldEl H 3); exact rfl; assumption; (case hk => assumption); exact rfl) | ((with_reducible apply ldEl0 H 3); exact rfl; assumption; (case hk => assumption); exact rfl) | ((with_reducible apply ldElS H 3); exact rfl; assumption; (case hk => assumption); exact rfl) | ((with_reducible apply ldElS0 H 3); exact rfl; assumption; (case hk => assumption); exact rfl) | ((with_reducible apply ldEl H 4); exact rfl; assumption; (case hk => assumption); exact rfl) | ((with_reducible apply ldEl0 H 4); exact rfl; assumption; (case hk => assumption); exact rfl) | ((with_reducible apply ldElS H 4); exact rfl; assumption; (case hk => assumption); exact rfl) | ((with_reducible apply ldElS0 H 4); exact rfl; assumption; (case hk => assumption); exact rfl) | ((with_reducible apply stAt H 0); exact rfl; exact rfl; intro h H) | ((with_reducible apply stAt0 H 0); exact rfl; exact rfl; intro h H) | ((with_reducible apply stAt H 1); exact rfl; exact rfl; intro h H) | ((with_reducible apply stAt0 H 1); exact rfl; exact rfl; intro h H) | ((with_reducible apply stAt H 2); exact rfl; exact rfl; intro h H) | ((with_reducible apply stAt0 H 2); exact rfl; exact rfl; intro h H) | ((with_reducible apply stAt H 3); exact rfl; exact rfl; intro h H) | ((with_reducible apply stAt0 H 3); exact rfl; exact rfl; intro h H) | ((with_reducible apply stAt H 4); exact rfl; exact rfl; intro h H) | ((with_reducible apply stAt0 H 4); exact rfl; exact rfl; intro h H) | ((with_reducible apply stElS (E := eRN) ⟨_, _, _, _⟩ H 0); exact rfl; assumption; (case hk => assumption); exact rfl; (first | exact rfl | (dsimp only [eRN, List.set_cons_succ, List.set_cons_zero] <;> exact rfl)); intro h H) | ((with_reducible apply stElS0 (E := eRN) ⟨_, _, _, _⟩ H 0); exact rfl; assumption; (case hk => assumption); (first | exact rfl | (dsimp only [eRN, List.set_cons_succ, List.set_cons_zero] <;> exact rfl)); intro h H) | ((with_reducible apply stEl (E := eRN) ⟨_, _, _, _⟩ H 0); exact rfl; assumption; (case hk => assumption); exact rfl; (first | exact rfl | (dsimp only [eRN, List.set_cons_succ, List.set_cons_zero] <;> exact rfl)); intro h H) | ((with_reducible apply stEl0 (E := eRN) ⟨_, _, _, _⟩ H 0); exact rfl; assumption; (case hk => assumption); (first | exact rfl | (dsimp only [eRN, List.set_cons_succ, List.set_cons_zero] <;> exact rfl)); intro h H) | ((with_reducible apply stElS (E := eRN) ⟨_, _, _, _⟩ H 1); exact rfl; assumption; (case hk => assumption); exact rfl; (first | exact rfl | (dsimp only [eRN, List.set_cons_succ, List.set_cons_zero] <;> exact rfl)); intro h H) | ((with_reducible apply stElS0 (E := eRN) ⟨_, _, _, _⟩ H 1); exact rfl; assumption; (case hk => assumption); (first | exact rfl | (dsimp only [eRN, List.set_cons_succ, List.set_cons_zero] <;> exact rfl)); intro h H) | ((with_reducible apply stEl (E := eRN) ⟨_, _, _, _⟩ H 1); exact rfl; assumption; (case hk => assumption); exact rfl; (first | exact rfl | (dsimp only [eRN, List.set_cons_succ, List.set_cons_zero] <;> exact rfl)); intro h H) | ((with_reducible apply stEl0 (E := eRN) ⟨_, _, _, _⟩ H 1); exact rfl; assumption; (case hk => assumption); (first | exact rfl | (dsimp only [eRN, List.set_cons_succ, List.set_cons_zero] <;> exact rfl)); intro h H) | ((with_reducible apply stElS (E := eRN) ⟨_, _, _, _⟩ H 2); exact rfl; assumption; (case hk => assumption); exact rfl; (first | exact rfl | (dsimp only [eRN, List.set_cons_succ, List.set_cons_zero] <;> exact rfl)); intro h H) | ((with_reducible apply stElS0 (E := eRN) ⟨_, _, _, _⟩ H 2); exact rfl; assumption; (case hk => assumption); (first | exact rfl | (dsimp only [eRN, List.set_cons_succ, List.set_cons_zero] <;> exact rfl)); intro h H) | ((with_reducible apply stEl (E := eRN) ⟨_, _, _, _⟩ H 2); exact rfl; assumption; (case hk => assumption); exact rfl; (first | exact rfl | (dsimp only [eRN, List.set_cons_succ, List.set_cons_zero] <;> exact rfl)); intro h H) | ((with_reducible apply stEl0 (E := eRN) ⟨_, _, _, _⟩ H 2); exact rfl; assumption; (case hk => assumption); (first | exact rfl | (dsimp only [eRN, List.set_cons_succ, List.set_cons_zero] <;> exact rfl)); intro h H) | ((with_reducible apply stElS (E := eRN) ⟨_, _, _, _⟩ H 3); exact rfl; assumption; (case hk => assumption); exact rfl; (first | exact rfl | (dsimp only [eRN, List.set_cons_succ, List.set_cons_zero] <;> exact rfl)); intro h H) | ((with_reducible apply stElS0 (E := eRN) ⟨_, _, _, _⟩ H 3); exact rfl; assumption; (case hk => assumption); (first | exact rfl | (dsimp only [eRN, List.set_cons_succ, List.set_cons_zero] <;> exact rfl)); intro h H) | ((with_reducible apply stEl (E := eRN) ⟨_, _, _, _⟩ H 3); exact rfl; assumption; (case hk => assumption); exact rfl; (first | exact rfl | (dsimp only [eRN, List.set_cons_succ, List.set_cons_zero] <;> exact rfl)); intro h H) | ((with_reducible apply stEl0 (E := eRN) ⟨_, _, _, _⟩ H 3); exact rfl; assumption; (case hk => assumption); (first | exact rfl | (dsimp only [eRN, List.set_cons_succ, List.set_cons_zero] <;> exact rfl)); intro h H) | ((with_reducible apply stElS (E := eRN) ⟨_, _, _, _⟩ H 4); exact rfl; assumption; (case hk => assumption); exact rfl; (first | exact rfl | (dsimp only [eRN, List.set_cons_succ, List.set_cons_zero] <;> exact rfl)); intro h H) | ((with_reducible apply stElS0 (E := eRN) ⟨_, _, _, _⟩ H 4); exact rfl; assumption; (case hk => assumption); (first | exact rfl | (dsimp only [eRN, List.set_cons_succ, List.set_cons_zero] <;> exact rfl)); intro h H) | ((with_reducible apply stEl (E := eRN) ⟨_, _, _, _⟩ H 4); exact rfl; assumption; (case hk => assumption); exact rfl; (first | exact rfl | (dsimp only [eRN, List.set_cons_succ, List.set_cons_zero] <;> exact rfl)); intro h H) | ((with_reducible apply stEl0 (E := eRN) ⟨_, _, _, _⟩ H 4); exact rfl; assumption; (case hk => assumption); (first | exact rfl | (dsimp only [eRN, List.set_cons_succ, List.set_cons_zero] <;> exact rfl)); intro h H) | ((with_reducible apply allocAt H); intro h b H) | ((with_reducible refine ⟨?_, ?_⟩); first | ((with_reducible apply ldAt H 0); exact rfl; exact rfl; exact rfl) | ((with_reducible apply ldAt0 H 0); exact rfl; exact rfl; exact rfl) | ((with_reducible apply ldAt H 1); exact rfl; exact rfl; exact rfl) | ((with_reducible apply ldAt0 H 1); exact rfl; exact rfl; exact rfl) | ((with_reducible apply ldAt H 2); exact rfl; exact rfl; exact rfl) | ((with_reducible apply ldAt0 H 2); exact rfl; exact rfl; exact rfl) | ((with_reducible apply ldAt H 3); exact rfl; exact rfl; exact rfl) | ((with_reducible apply ldAt0 H 3); exact rfl; exact rfl; exact rfl) | ((with_reducible apply ldAt H 4); exact rfl; exact rfl; exact rfl) | ((with_reducible apply ldAt0 H 4); exact rfl; exact rfl; exact rfl) | ((with_reducible apply ldEl H 0); exact rfl; assumption; (case hk => assumption); exact rfl; exact rfl) | ((with_reducible apply ldEl0 H 0); exact rfl; assumption; (case hk => assumption); exact rfl; exact rfl) | ((with_reducible apply ldElS H 0); exact rfl; assumption; (case hk => assumption); exact rfl; exact rfl) | ((with_reducible apply ldElS0 H 0); exact rfl; assumption; (case hk => assumption); exact rfl; exact rfl) | ((with_reducible apply ldEl H 1); exact rfl; assumption; (case hk => assumption); exact rfl; exact rfl) | ((with_reducible apply ldEl0 H 1); exact rfl; assumption; (case hk => assumption); exact rfl; exact rfl) | ((with_reducible apply ldElS H 1); exact rfl; assumption; (case hk => assumption); exact rfl; exact rfl) | ((with_reducible apply ldElS0 H 1); exact rfl; assumption; (case hk => assumption); exact rfl; exact rfl) | ((with_reducible apply ldEl H 2); exact rfl; assumption; (case hk => assumption); exact rfl; exact rfl) | ((with_reducible apply ldEl0 H 2); exact rfl; assumption; (case hk => assumption); exact rfl; exact rfl) | ((with_reducible apply ldElS H 2); exact rfl; assumption; (case hk => assumption); exact rfl; exact rfl) | ((with_reducible apply ldElS0 H 2); exact rfl; assumption; (case hk => assumption); exact rfl; exact rfl) | ((with_reducible apply ldEl H 3); exact rfl; assumption; (case hk => assumption); exact rfl; exact rfl) | ((with_reducible apply ldEl0 H 3); exact rfl; assumption; (case hk => assumption); exact rfl; exact rfl) | ((with_reducible apply ldElS H 3); exact rfl; assumption; (case hk => assumption); exact rfl; exact rfl) | ((with_reducible apply ldElS0 H 3); exact rfl; assumption; (case hk => assumption); exact rfl; exact rfl) | ((with_reducible apply ldEl H 4); exact rfl; assumption; (case hk => assumption); exact rfl; exact rfl) | ((with_reducible apply ldEl0 H 4); exact rfl; assumption; (case hk => assumption); exact rfl; exact rfl) | ((with_reducible apply ldElS H 4); exact rfl; assumption; (case hk => assumption); exact rfl; exact rfl) | ((with_reducible apply ldElS0 H 4); exact rfl; assumption; (case hk => assumption); exact rfl; exact rfl)))
    refine app1B (E := eGN) TGN H 3 rfl 0 rfl C0.N[j] rfl (by rw [List.length_take]; omega) (by rw [List.length_take]; omega) fun s3 h3 H => ?_
    repeat (first | with_reducible refine nn ?_ | with_reducible refine let_ ?_ | with_reducible refine brSome ?_ | with_reducible refine brF ?_ | with_reducible refine brT ?_ | ((with_reducible apply ldAt H 0); exact rfl; exact rfl) | ((with_reducible apply ldAt0 H 0); exact rfl; exact rfl) | ((with_reducible apply ldAt H 1); exact rfl; exact rfl) | ((with_reducible apply ldAt0 H 1); exact rfl; exact rfl) | ((with_reducible apply ldAt H 2); exact rfl; exact rfl) | ((with_reducible apply ldAt0 H 2); exact rfl; exact rfl) | ((with_reducible apply stAt H 0); exact rfl; exact rfl; intro h H) | ((with_reducible apply stAt0 H 0); exact rfl; exact rfl; intro h H) | ((with_reducible apply stAt H 1); exact rfl; exact rfl; intro h H) | ((with_reducible apply stAt0 H 1); exact rfl; exact rfl; intro h H) | ((with_reducible apply stAt H 2); exact rfl; exact rfl; intro h H) | ((with_reducible apply stAt0 H 2); exact rfl; exact rfl; intro h H) | ((with_reducible refine ⟨?_, ?_⟩); first | ((with_reducible apply ldAt H 0); exact rfl; exact rfl; exact rfl) | ((with_reducible apply ldAt0 H 0); exact rfl; exact rfl; exact rfl) | ((with_reducible apply ldAt H 1); exact rfl; exact rfl; exact rfl) | ((with_reducible apply ldAt0 H 1); exact rfl; exact rfl; exact rfl) | ((with_reducible apply ldAt H 2); exact rfl; exact rfl; exact rfl) | ((with_reducible apply ldAt0 H 2); exact rfl; exact rfl; exact rfl)))
    rw [w64 (by omega) (by omega), ← List.take_succ_eq_append_getElem hj2] at *
    refine ⟨⟨j + 1, s3, by omega, by omega, H.tail.tail⟩, by omega⟩
  · have hjl : j = C0.N.length := by omega
    subst hjl
    rw [List.take_length] at H
    have H := ((((H.del 2).del 2).del 3).del 3).del 3
    exact hR h2 g _ sG (back _ (gl g 160 sG sE C0.N E ++ F) H)
theorem ref13_VictimsF_ok {g : Nat} {tyg : TypeId} {sG sE : Sl} {E : List CE} {N : List CN} {R : Sl → Heap → Prop} (H : FldAt h0 h d s k C (gl g tyg sG sE N E ++ F)) (he : EdgOk N E) (h0x : ∀ x, hasN N x → 0 ≤ x) (hEl : E.length ≤ 100000)
    (hR : ∀ r l h', SrtI l → (∀ x, x ∈ l ↔ hasN N x ∧ EP N x x) → l.length ≤ 64 → FldAt h0 h' d s k C (.own r 1 (eNum.fl l) :: F) → R r h') : C_ref13_Graph_Victims (some ⟨g, 0, none⟩) h R := by
  obtain ⟨X, H, back⟩ := H.raw
  rw [List.append_assoc] at H
  refine ref13_Victims_ok H he h0x hEl fun r l h' h1 h2 h3 H => ?_
  exact hR r l h' h1 h2 h3 (back _ (_ :: F) (((H.del 1).del 1).del 1))
end
/-! ## The acts -/
theorem len8 {x : Int} (h0 : 0 ≤ x) (h1 : x ≤ 255) : IntKind.i64.wrap (1 + IntKind.i64.wrap (divV .rem .u8 x 8)) = ((1 + (x % 8).toNat : Nat) : Int) := by
  rw [rem_nonneg h0, w64 (n := x % 8) (by omega) (by omega), w64 (by omega) (by omega)]
  omega
set_option maxHeartbeats 1600000 in
theorem law14_ChaseSound_ok {sites : Int} {l : Sl} {hB : Heap} {acts : List KAct} (w0 : 0 ≤ sites ∧ sites ≤ 255) (w1 : ArgAct14 hB l acts) : C_law14_ChaseSound sites l hB fun r h' => r = true ∧ Ext hB.size hB h' := by
  refine A_law14_ChaseSound ?_
  unfold S_law14_ChaseSound
  obtain ⟨A, hk⟩ := w1
  have hn := rdn A
  refine law14_fixed_ok fun h1 e1 => brN rfl (brD (fun _ => ⟨rfl, e1⟩) fun hc => ?_)
  refine nz (by decide) (let_ ?_)
  rw [len8 w0.1 w0.2]
  refine chase_New_ok (At.of_ext e1) (fun hbad => by omega) fun s hs h1' h8' h2 d H => ?_
  rw [hs]
  refine BothAt.start H fun h4 dr H => ?_
  refine loop1 (s1 := .one (.int .i64)) (fun (x : Int) h5 => ∃ (j : Nat) (C : CF), x = j ∧ j ≤ acts.length ∧ BothAt hB h5 d dr s j C [] ∧ COk s j C ∧ C.fl.length ≤ 64 * j ∧ KSnd C) (fun (x : Int) _ => (acts.length - x).toNat)
    ⟨0, kNew, rfl, Nat.zero_le _, H, new_cok s, Nat.le_refl _, new_snd⟩ fun _ (x : Int) h5 hI => ?_
  clear H
  obtain ⟨j, C, rfl, hj, H, ho, hfl, hsd⟩ := hI
  refine brD (fun hc2 => ?_) fun hc2 => ?_
  · have hj2 : j < acts.length := by omega
    obtain ⟨hkd, hida⟩ := hk _ (List.getElem_mem hj2)
    obtain ⟨ty, sN, sE, sH, sF, sV, E, Hd, hr, hE, hH, HF⟩ := H
    obtain ⟨X, H, back⟩ := HF.raw
    refine ixR (H.arg A) j rfl hj2 fun e he => ?_
    repeat (first | with_reducible refine nn ?_ | with_reducible refine let_ ?_ | with_reducible refine brSome ?_ | with_reducible refine brF ?_ | with_reducible refine brT ?_ | ((with_reducible apply ldAt H 0); exact rfl; exact rfl) | ((with_reducible apply ldAt0 H 0); exact rfl; exact rfl) | ((with_reducible apply ldR (H.arg A)); assumption; (case hk => assumption); exact rfl) | ((with_reducible apply ldR0 (H.arg A)); assumption; (case hk => assumption); exact rfl) | ((with_reducible apply stAt H 0); exact rfl; exact rfl; intro h H) | ((with_reducible apply stAt0 H 0); exact rfl; exact rfl; intro h H) | ((with_reducible apply allocAt H); intro h b H) | ((with_reducible refine ⟨?_, ?_⟩); first | ((with_reducible apply ldAt H 0); exact rfl; exact rfl; exact rfl) | ((with_reducible apply ldAt0 H 0); exact rfl; exact rfl; exact rfl)))
    have H := back _ (_ :: _) H
    have H : BothAt hB _ d dr s j C [.blk b 97 (eKAct.cells acts[j])] := ⟨ty, sN, sE, sH, sF, sV, E, Hd, hr, hE, hH, H.perm (by rw [List.append_nil]; exact (List.perm_append_singleton ..).symm)⟩
    refine law14_do_ok (a := acts[j]) H ho (by omega) (by omega) (by omega) hkd.1 fun h6 H => ?_
    have ho' := ho.act hida
    have hl' := act_len ho acts[j]
    have hs' := hsd.act ho acts[j]
    rw [w64 (by omega) (by omega)]
    exact ⟨⟨j + 1, _, by omega, by omega, H.sub (F' := []) (List.nil_sublist _), ho', by omega, hs'⟩, by omega⟩
  · obtain ⟨ty, sN, sE, sH, sF, sV, E, Hd, hr, hE, hH, H⟩ := H
    refine law14_graph_ok H ho.len fun h6 g tyg sG H => ?_
    refine ref13_VictimsF_ok H (hr.edgOk ho) (fun x hx => by have := (ho.ndOk hx).id; rw [(nd_mem hx).2] at this; exact this) (by omega) fun r l2 h7 hs1 hm hl1 H => ?_
    refine chase_Victims_ok H ho fun r5 h8 H => ?_
    have hvl := ho.vlen
    have hrn := H.ats.n 0 rfl
    refine loop1 (s1 := .one (.int .i64)) (fun (x : Int) h9 => ∃ m : Nat, x = m ∧ m ≤ C.vs.length ∧ h9 = h8) (fun (x : Int) _ => (C.vs.length - x).toNat)
      ⟨0, rfl, Nat.zero_le _, rfl⟩ fun _ (x : Int) h9 hI => ?_
    obtain ⟨m, rfl, hm1, rfl⟩ := hI
    refine brD (fun hc3 => ?_) fun hc3 => ⟨rfl, H.ats.ext⟩
    have hm2 : m < C.vs.length := by omega
    have HA := H.ats
    refine ixAt (E := eNum) HA 0 rfl m rfl hm2 fun e he => ?_
    refine ldEl0 (E := eNum) HA 0 rfl he hm2 C.vs[m] rfl ?_
    have hv := List.getElem_mem hm2
    refine law14_in_ok (HA.rdo 1 rfl) (by omega) ((hm _).2 ⟨ho.vs.2 _ hv, hsd.vs _ hv⟩) (brN rfl ?_)
    rw [w64 (by omega) (by omega)]
    exact ⟨⟨m + 1, by omega, by omega, rfl⟩, by omega⟩
set_option maxHeartbeats 1600000 in
set_option maxRecDepth 100000 in
theorem law14_ChaseAll_ok {sites : Int} {l : Sl} {hB : Heap} {acts : List KAct} (w0 : 0 ≤ sites ∧ sites ≤ 255) (w1 : ArgAct14 hB l acts) : C_law14_ChaseAll sites l hB fun r h' => r = true ∧ Ext hB.size hB h' := by
  refine A_law14_ChaseAll ?_
  unfold S_law14_ChaseAll
  obtain ⟨A, hk⟩ := w1
  have hn := rdn A
  refine law14_fixed_ok fun h1 e1 => brN rfl (brD (fun _ => ⟨rfl, e1⟩) fun hc => ?_)
  refine nz (by decide) (let_ ?_)
  rw [len8 w0.1 w0.2]
  refine chase_New_ok (At.of_ext e1) (fun hbad => by omega) fun s hs h1' h8' h2 d H => ?_
  rw [hs]
  refine BothAt.start H fun h4 dr H => ?_
  refine loop1 (s1 := .one (.int .i64)) (fun (x : Int) h5 => ∃ (j : Nat) (C : CF), x = j ∧ j ≤ acts.length ∧ BothAt hB h5 d dr s j C [] ∧ COk s j C ∧ C.fl.length ≤ 64 * j ∧ KSnd C ∧ PInv j C) (fun (x : Int) _ => (acts.length - x).toNat)
    ⟨0, kNew, rfl, Nat.zero_le _, H, new_cok s, Nat.le_refl _, new_snd, new_pinv⟩ fun _ (x : Int) h5 hI => ?_
  clear H
  obtain ⟨j, C, rfl, hj, H, ho, hfl, hsd, hpi⟩ := hI
  refine brD (fun hc2 => ?_) fun hc2 => ?_
  · have hj2 : j < acts.length := by omega
    obtain ⟨hkd, hida⟩ := hk _ (List.getElem_mem hj2)
    obtain ⟨ty, sN, sE, sH, sF, sV, E, Hd, hr, hE, hH, HF⟩ := H
    obtain ⟨X, H, back⟩ := HF.raw
    refine ixR (H.arg A) j rfl hj2 fun e he => ?_
    repeat (first | with_reducible refine nn ?_ | with_reducible refine let_ ?_ | with_reducible refine brSome ?_ | with_reducible refine brF ?_ | with_reducible refine brT ?_ | ((with_reducible apply ldAt H 0); exact rfl; exact rfl) | ((with_reducible apply ldAt0 H 0); exact rfl; exact rfl) | ((with_reducible apply ldR (H.arg A)); assumption; (case hk => assumption); exact rfl) | ((with_reducible apply ldR0 (H.arg A)); assumption; (case hk => assumption); exact rfl) | ((with_reducible apply stAt H 0); exact rfl; exact rfl; intro h H) | ((with_reducible apply stAt0 H 0); exact rfl; exact rfl; intro h H) | ((with_reducible apply allocAt H); intro h b H) | ((with_reducible refine ⟨?_, ?_⟩); first | ((with_reducible apply ldAt H 0); exact rfl; exact rfl; exact rfl) | ((with_reducible apply ldAt0 H 0); exact rfl; exact rfl; exact rfl)))
    have H := back _ (_ :: _) H
    have H : BothAt hB _ d dr s j C [.blk b 97 (eKAct.cells acts[j])] := ⟨ty, sN, sE, sH, sF, sV, E, Hd, hr, hE, hH, H.perm (by rw [List.append_nil]; exact (List.perm_append_singleton ..).symm)⟩
    refine law14_do_ok (a := acts[j]) H ho (by omega) (by omega) (by omega) hkd.1 fun h6 H => ?_
    have ho' := ho.act hida
    have hl' := act_len ho acts[j]
    have hs' := hsd.act ho acts[j]
    have hp' := hpi.act ho (by omega) acts[j]
    rw [w64 (by omega) (by omega)]
    exact ⟨⟨j + 1, _, by omega, by omega, H.sub (F' := []) (List.nil_sublist _), ho', by omega, hs', hp'⟩, by omega⟩
  · obtain ⟨ty, sN, sE, sH, sF, sV, E, Hd, hr, hE, hH, H⟩ := H
    have h64 := ho.len
    have hjl : j ≤ 80 := by omega
    have hpn := hpi.n
    have hpp := hpi.p
    refine nn (ldAt (j := 1) H.ats 0 rfl sN rfl ?_)
    have hNn := H.ats.n 1 rfl
    obtain ⟨big, hbig⟩ : ∃ m : Nat, (20000 : Int) = (m : Int) := ⟨20000, rfl⟩
    rw [hbig]
    refine loop1 (s1 := .one (.int .i64)) (fun (x : Int) h6 => ∃ (i : Nat) (D : CF), x = i ∧ i ≤ C.N.length ∧ FldAt hB h6 d s (80 + 20000 * i) D (ref6 dr ty s sN sE sH sF sV C E Hd ++ []) ∧ COk s (80 + i) D ∧ KSnd D ∧ SameG C.N D.N ∧ eT D.N = eT C.N ∧ pot D ≤ pot C + 160 * i ∧ (0 < i → D.fl = []) ∧ ∀ m, (hm : m < C.N.length) → m < i → EP C.N C.N[m].id C.N[m].id → C.N[m].id ∈ D.vs) (fun (x : Int) _ => (C.N.length - x).toNat)
      ⟨0, C, rfl, Nat.zero_le _, H.mono (by omega), ho.mono (by omega), hsd, .refl _, rfl, Nat.le_refl _, (fun h => absurd h (Nat.lt_irrefl _)), fun m _ hm => absurd hm (Nat.not_lt_zero _)⟩ fun _ (x : Int) h6 hI => ?_
    clear H
    obtain ⟨i, D, rfl, hi, H, hoD, hsD, hsg, heT, hpot, hemp, hall⟩ := hI
    refine brD (fun hc3 => ?_) fun hc3 => ?_
    · have hi2 : i < C.N.length := by omega
      obtain ⟨X, H, back⟩ := H.raw
      refine ixAt H 1 rfl i rfl hi2 fun e he => ?_
      repeat (first | with_reducible refine nn ?_ | with_reducible refine let_ ?_ | with_reducible refine brSome ?_ | with_reducible refine brF ?_ | with_reducible refine brT ?_ | ((with_reducible apply ldAt H 0); exact rfl; exact rfl) | ((with_reducible apply ldAt0 H 0); exact rfl; exact rfl) | ((with_reducible apply ldAt H 1); exact rfl; exact rfl) | ((with_reducible apply ldAt0 H 1); exact rfl; exact rfl) | ((with_reducible apply ldEl H 0); exact rfl; assumption; (case hk => assumption); exact rfl) | ((with_reducible apply ldEl0 H 0); exact rfl; assumption; (case hk => assumption); exact rfl) | ((with_reducible apply ldElS H 0); exact rfl; assumption; (case hk => assumption); exact rfl) | ((with_reducible apply ldElS0 H 0); exact rfl; assumption; (case hk => assumption); exact rfl) | ((with_reducible apply ldEl H 1); exact rfl; assumption; (case hk => assumption); exact rfl) | ((with_reducible apply ldEl0 H 1); exact rfl; assumption; (case hk => assumption); exact rfl) | ((with_reducible apply ldElS H 1); exact rfl; assumption; (case hk => assumption); exact rfl) | ((with_reducible apply ldElS0 H 1); exact rfl; assumption; (case hk => assumption); exact rfl) | ((with_reducible apply stAt H 0); exact rfl; exact rfl; intro h H) | ((with_reducible apply stAt0 H 0); exact rfl; exact rfl; intro h H) | ((with_reducible apply stAt H 1); exact rfl; exact rfl; intro h H) | ((with_reducible apply stAt0 H 1); exact rfl; exact rfl; intro h H) | ((with_reducible apply stElS (E := eRN) ⟨_, _, _, _⟩ H 0); exact rfl; assumption; (case hk => assumption); exact rfl; (first | exact rfl | (dsimp only [eRN, List.set_cons_succ, List.set_cons_zero] <;> exact rfl)); intro h H) | ((with_reducible apply stElS0 (E := eRN) ⟨_, _, _, _⟩ H 0); exact rfl; assumption; (case hk => assumption); (first | exact rfl | (dsimp only [eRN, List.set_cons_succ, List.set_cons_zero] <;> exact rfl)); intro h H) | ((with_reducible apply stEl (E := eRN) ⟨_, _, _, _⟩ H 0); exact rfl; assumption; (case hk => assumption); exact rfl; (first | exact rfl | (dsimp only [eRN, List.set_cons_succ, List.set_cons_zero] <;> exact rfl)); intro h H) | ((with_reducible apply stEl0 (E := eRN) ⟨_, _, _, _⟩ H 0); exact rfl; assumption; (case hk => assumption); (first | exact rfl | (dsimp only [eRN, List.set_cons_succ, List.set_cons_zero] <;> exact rfl)); intro h H) | ((with_reducible apply stElS (E := eRN) ⟨_, _, _, _⟩ H 1); exact rfl; assumption; (case hk => assumption); exact rfl; (first | exact rfl | (dsimp only [eRN, List.set_cons_succ, List.set_cons_zero] <;> exact rfl)); intro h H) | ((with_reducible apply stElS0 (E := eRN) ⟨_, _, _, _⟩ H 1); exact rfl; assumption; (case hk => assumption); (first | exact rfl | (dsimp only [eRN, List.set_cons_succ, List.set_cons_zero] <;> exact rfl)); intro h H) | ((with_reducible apply stEl (E := eRN) ⟨_, _, _, _⟩ H 1); exact rfl; assumption; (case hk => assumption); exact rfl; (first | exact rfl | (dsimp only [eRN, List.set_cons_succ, List.set_cons_zero] <;> exact rfl)); intro h H) | ((with_reducible apply stEl0 (E := eRN) ⟨_, _, _, _⟩ H 1); exact rfl; assumption; (case hk => assumption); (first | exact rfl | (dsimp only [eRN, List.set_cons_succ, List.set_cons_zero] <;> exact rfl)); intro h H) | ((with_reducible apply allocAt H); intro h b H) | ((with_reducible refine ⟨?_, ?_⟩); first | ((with_reducible apply ldAt H 0); exact rfl; exact rfl; exact rfl) | ((with_reducible apply ldAt0 H 0); exact rfl; exact rfl; exact rfl) | ((with_reducible apply ldAt H 1); exact rfl; exact rfl; exact rfl) | ((with_reducible apply ldAt0 H 1); exact rfl; exact rfl; exact rfl) | ((with_reducible apply ldEl H 0); exact rfl; assumption; (case hk => assumption); exact rfl; exact rfl) | ((with_reducible apply ldEl0 H 0); exact rfl; assumption; (case hk => assumption); exact rfl; exact rfl) | ((with_reducible apply ldElS H 0); exact rfl; assumption; (case hk => assumption); exact rfl; exact rfl) | ((with_reducible apply ldElS0 H 0); exact rfl; assumption; (case hk => assumption); exact rfl; exact rfl) | ((with_reducible apply ldEl H 1); exact rfl; assumption; (case hk => assumption); exact rfl; exact rfl) | ((with_reducible apply ldEl0 H 1); exact rfl; assumption; (case hk => assumption); exact rfl; exact rfl) | ((with_reducible apply ldElS H 1); exact rfl; assumption; (case hk => assumption); exact rfl; exact rfl) | ((with_reducible apply ldElS0 H 1); exact rfl; assumption; (case hk => assumption); exact rfl; exact rfl)))
      have H := (back _ (_ :: _) H).sub (List.sublist_cons_self ..)
      have hx : hasN D.N C.N[i].id := (hsg.has _).2 ⟨_, List.getElem_mem hi2, rfl⟩
      obtain ⟨p1, p2, _, _⟩ := pot_begin hoD C.N[i].id
      have hfp := fl_pot D
      have hlim : pot (kBegin D C.N[i].id).1 < big := by omega
      refine chase_Begin_ok H hoD (by omega) (by omega) fun h7 H => ?_
      have hoB := hoD.begin_ C.N[i].id
      refine chase_Settle_ok (m := big) H hoB (by omega) (by omega) (fun j' _ => ?_) fun q h8 H => ?_
      · have h9 := fl_pot (settleM j' (kBegin D C.N[i].id).1)
        have h10 := (pot_settle hoB j').1
        omega
      obtain ⟨a1, a2, a3, a4, a5⟩ := begin_all hoD hsD hx hlim
      have hsB := (hsD.begin_ hoD C.N[i].id).settle hoB big
      have hoS := hoB.settle big
      have hN5 := settle_N (kBegin D C.N[i].id).1 big
      generalize settleM big (kBegin D C.N[i].id).1 = D' at *
      rw [w64 (by omega) (by omega)]
      refine ⟨⟨i + 1, D', by omega, by omega, H.mono (by omega), hoS, hsB, hsg.trans a4, by rw [hN5, p2, heT], by omega, fun _ => a1, fun m hm hmi hep => ?_⟩, by omega⟩
      by_cases em : m < i
      · exact a3 _ (hall m hm em hep)
      · obtain rfl : m = i := by omega
        exact a2 (hsg.ep hep)
    · have hil : i = C.N.length := by omega
      subst hil
      have hfl0 : D.fl = [] := by
        by_cases h0 : 0 < C.N.length
        · exact hemp h0
        · cases hfl2 : D.fl with
          | nil => rfl
          | cons p l =>
            have := (hoD.fls p (by rw [hfl2]; exact List.mem_cons_self ..)).st
            obtain ⟨n, hn, _⟩ := (hsg.has _).1 this
            have : C.N = [] := List.length_eq_zero_iff.1 (by omega)
            rw [this] at hn; cases hn
      refine chase_Flight_ok H (by rw [hfl0]; exact Nat.zero_le _) fun r6 h7 H => ?_
      have hr6 := H.ats.n 0 rfl
      rw [hfl0] at hr6
      refine brY (by rw [hr6]; rfl) ?_
      have H := H.sub (List.sublist_cons_self ..)
      refine chase_Victims_ok H hoD fun r7 h8 H => ?_
      have H := H.perm (F' := ref6 dr ty s sN sE sH sF sV C E Hd ++ [.own r7 1 (eNum.fl D.vs)]) (by rw [List.append_nil]; exact (List.perm_append_singleton ..).symm)
      refine law14_graph_ok H ho.len fun h9 g tyg sG H => ?_
      refine ref13_VictimsF_ok H (hr.edgOk ho) (fun x hx => by have := (ho.ndOk hx).id; rw [(nd_mem hx).2] at this; exact this) (by omega) fun r l2 h10 hs1 hm hl1 H => ?_
      have hvl := hoD.vlen
      have heq : l2 = D.vs := srtI_ext hs1 hoD.vs.1 fun x => by
        rw [hm]
        constructor
        · rintro ⟨⟨n, hn, hid⟩, hep⟩
          obtain ⟨m, hm2, rfl⟩ := List.getElem_of_mem hn
          rw [← hid] at hep ⊢
          exact hall m hm2 hm2 hep
        · intro hv
          exact ⟨(hsg.has _).1 (hoD.vs.2 _ hv), hsg.symm.ep (hsD.vs _ hv)⟩
      rw [heq] at H
      refine law14_sameI_ok (H.ats.rdo 1 rfl) (H.ats.rdo 0 rfl) (by omega) ?_
      exact ⟨rfl, H.ats.ext⟩
end Go.Proofs.Ytmpekddpehhdnaa
