/-
  Layer 16 (status): contracts of what begins, is decided, killed, heard of, and told.
-/
import Derived.Test.YtmpekddpehhdnaaUb
namespace Go.Proofs.Ytmpekddpehhdnaa
open Go

section
variable {h0 h : Heap} {F L : List Res} {d : Nat} {ty : TypeId} {s : Sl} {l : List SRow} {N : Nat}
theorem status_Open_ok {tx attempt stamp now : Int} {R : Int → Int → Heap → Prop} (H : At h0 h (tabL d ty s l ++ F)) (ho : SOk N l) (hN : N ≤ 100000) (hR : ∀ h' s', At h0 h' (tabL d ty s' (openM l tx attempt stamp now).1 ++ F) → R (openM l tx attempt stamp now).2.1 (openM l tx attempt stamp now).2.2 h') : C_status_Table_Open (some ⟨d, 0, none⟩) tx attempt stamp now h R := by
  refine A_status_Table_Open ?_
  unfold S_status_Table_Open
  have hs := ho.srt
  have hln := ho.len
  have bad : (¬ rightB tx attempt now ∨ stamp < 1 ∨ stamp > 1099511627776) → R 0 1 h := fun hb => by
    unfold openM at hR
    rw [if_pos hb] at hR
    exact hR _ s H
  refine join1 (s1 := .one .bool) (fun (b : Bool) h1 => h1 = h ∧ (b = true ↔ (¬ rightB tx attempt now ∨ stamp < 1 ∨ stamp > 1099511627776))) (fun _ (b : Bool) h1 hJ => ?_) ?_
  rotate_left
  · refine status_right_ok (brNot (fun hr => ⟨rfl, fun _ => .inl (of_decide_eq_false hr), fun _ => rfl⟩) fun hr => ?_)
    refine brD (fun h1 => ⟨rfl, fun _ => .inr (.inl h1), fun _ => rfl⟩) fun h1 => ⟨rfl, ?_⟩
    rw [decide_eq_true_eq]
    exact ⟨fun x => .inr (.inr x), fun x => by rcases x with x | x | x; exact absurd (of_decide_eq_true hr) x; exact absurd x h1; exact x⟩
  obtain ⟨rfl, hb⟩ := hJ
  refine brB (fun hc => bad (hb.1 hc)) fun hc => ?_
  have hnb : ¬ (¬ rightB tx attempt now ∨ stamp < 1 ∨ stamp > 1099511627776) := fun x => by rw [hb.2 x] at hc; cases hc
  unfold openM at hR
  rw [if_neg hnb] at hR
  unfold byHow at hR
  refine status_how_ok H hs (by omega) (fun hcu h' H => ?_) fun o e q h' hcu hk e1 he q1 q2 H => ?_
  · rw [hcu] at hR
    dsimp only at hR
    refine brY rfl ?_
    exact status_put_ok (r := ⟨tx, attempt, stamp, 1, now⟩) H ho hN hR
  · rw [hcu] at hR
    dsimp only at hR
    refine brD (fun hq => ?_) fun hq => ?_
    · rw [if_pos (q1.1 hq)] at hR
      exact status_put_ok (r := ⟨tx, attempt, stamp, 1, now⟩) H ho hN hR
    · rw [if_neg fun x => hq (q1.2 x)] at hR
      refine brD (fun hq3 => ?_) fun hq3 => ?_
      · rw [if_pos (q2.1 hq3)] at hR
        exact hR _ s H
      · rw [if_neg fun x => hq3 (q2.2 x)] at hR
        refine nn (ldEl (j := 3) H 1 rfl he hk o.state (by rw [e1]; rfl) ?_)
        refine br beq_iff_eq (fun h3 => ?_) fun h3 => ?_
        · rw [if_pos h3] at hR; exact hR _ s H
        · rw [if_neg h3] at hR
          refine nn (ldEl (j := 3) H 1 rfl he hk o.state (by rw [e1]; rfl) ?_)
          exact hR _ s H
theorem status_Decide_ok {tx attempt : Int} {R : Int → Int → Heap → Prop} (H : At h0 h (tabL d ty s l ++ F)) (ho : SOk N l) (hN : N ≤ 100000) (hR : ∀ h' s', At h0 h' (tabL d ty s' (decideM l tx attempt).1 ++ F) → R (decideM l tx attempt).2.1 (decideM l tx attempt).2.2 h') : C_status_Table_Decide (some ⟨d, 0, none⟩) tx attempt h R := by
  refine A_status_Table_Decide ?_
  unfold S_status_Table_Decide
  have hs := ho.srt
  have hln := ho.len
  unfold decideM at hR
  refine status_right_ok ?_
  refine brNot (fun hr => ?_) fun hr => ?_
  · rw [if_pos (of_decide_eq_false hr)] at hR; exact hR _ s H
  rw [if_neg (fun x => x (of_decide_eq_true hr))] at hR
  unfold byHow at hR
  refine status_how_ok H hs (by omega) (fun hcu h' H => ?_) fun o e q h' hcu hk e1 he q1 q2 H => ?_
  · rw [hcu] at hR
    exact brY rfl (hR _ s H)
  · rw [hcu] at hR
    dsimp only at hR
    refine brD (fun hq => ?_) fun hq => ?_
    · rw [if_pos (q1.1 hq)] at hR; exact hR _ s H
    · rw [if_neg fun x => hq (q1.2 x)] at hR
      refine brD (fun hq3 => ?_) fun hq3 => ?_
      · rw [if_pos (q2.1 hq3)] at hR; exact hR _ s H
      · rw [if_neg fun x => hq3 (q2.2 x)] at hR
        refine nn (ldEl (j := 3) H 1 rfl he hk o.state (by rw [e1]; rfl) ?_)
        refine br beq_iff_eq (fun h1 => ?_) fun h1 => ?_
        · rw [if_pos h1] at hR
          refine nn (stEl (E := eRow) (j := 3) { o with state := 2 } H 1 rfl he hk rfl (by rw [e1]; rfl) fun h H => ?_)
          have e2 := (cur_some hs hcu).2.2
          subst e2
          exact hR _ s H
        · rw [if_neg h1] at hR
          refine br beq_iff_eq (fun h2 => ?_) fun h2 => ?_
          · rw [if_pos h2] at hR; exact hR _ s H
          · rw [if_neg h2] at hR; exact hR _ s H
theorem status_Kill_ok {tx attempt now : Int} {R : Int → Int → Heap → Prop} (H : At h0 h (tabL d ty s l ++ F)) (ho : SOk N l) (hN : N ≤ 100000) (hR : ∀ h' s', At h0 h' (tabL d ty s' (killM l tx attempt now).1 ++ F) → R (killM l tx attempt now).2.1 (killM l tx attempt now).2.2 h') : C_status_Table_Kill (some ⟨d, 0, none⟩) tx attempt now h R := by
  refine A_status_Table_Kill ?_
  unfold S_status_Table_Kill
  have hs := ho.srt
  have hln := ho.len
  unfold killM at hR
  refine status_right_ok ?_
  refine brNot (fun hr => ?_) fun hr => ?_
  · rw [if_pos (of_decide_eq_false hr)] at hR; exact hR _ s H
  rw [if_neg (fun x => x (of_decide_eq_true hr))] at hR
  unfold byHow at hR
  refine status_how_ok H hs (by omega) (fun hcu h' H => ?_) fun o e q h' hcu hk e1 he q1 q2 H => ?_
  · rw [hcu] at hR
    exact brY rfl (status_put_ok (r := ⟨tx, attempt, 0, 3, now⟩) H ho hN hR)
  · rw [hcu] at hR
    dsimp only at hR
    refine brD (fun hq => ?_) fun hq => ?_
    · rw [if_pos (q1.1 hq)] at hR
      exact status_put_ok (r := ⟨tx, attempt, 0, 3, now⟩) H ho hN hR
    · rw [if_neg fun x => hq (q1.2 x)] at hR
      refine brD (fun hq3 => ?_) fun hq3 => ?_
      · rw [if_pos (q2.1 hq3)] at hR; exact hR _ s H
      · rw [if_neg fun x => hq3 (q2.2 x)] at hR
        refine nn (ldEl (j := 3) H 1 rfl he hk o.state (by rw [e1]; rfl) ?_)
        refine br beq_iff_eq (fun h1 => ?_) fun h1 => ?_
        · rw [if_pos h1] at hR
          refine nn (stEl (E := eRow) (j := 3) { o with state := 3 } H 1 rfl he hk rfl (by rw [e1]; rfl) fun h H => ?_)
          have e2 := (cur_some hs hcu).2.2
          subst e2
          exact hR _ s H
        · rw [if_neg h1] at hR
          refine br beq_iff_eq (fun h2 => ?_) fun h2 => ?_
          · rw [if_pos h2] at hR; exact hR _ s H
          · rw [if_neg h2] at hR; exact hR _ s H
theorem status_Beat_ok {tx attempt now : Int} {R : Int → Int → Heap → Prop} (H : At h0 h (tabL d ty s l ++ F)) (ho : SOk N l) (hN : N ≤ 100000) (hR : ∀ h' s', At h0 h' (tabL d ty s' (beatM l tx attempt now).1 ++ F) → R (beatM l tx attempt now).2.1 (beatM l tx attempt now).2.2 h') : C_status_Table_Beat (some ⟨d, 0, none⟩) tx attempt now h R := by
  refine A_status_Table_Beat ?_
  unfold S_status_Table_Beat
  have hs := ho.srt
  have hln := ho.len
  unfold beatM at hR
  refine status_right_ok ?_
  refine brNot (fun hr => ?_) fun hr => ?_
  · rw [if_pos (of_decide_eq_false hr)] at hR; exact hR _ s H
  rw [if_neg (fun x => x (of_decide_eq_true hr))] at hR
  unfold byHow at hR
  refine status_how_ok H hs (by omega) (fun hcu h' H => ?_) fun o e q h' hcu hk e1 he q1 q2 H => ?_
  · rw [hcu] at hR
    exact brY rfl (hR _ s H)
  · rw [hcu] at hR
    dsimp only at hR
    refine brD (fun hq => ?_) fun hq => ?_
    · rw [if_pos (q1.1 hq)] at hR; exact hR _ s H
    · rw [if_neg fun x => hq (q1.2 x)] at hR
      refine brD (fun hq3 => ?_) fun hq3 => ?_
      · rw [if_pos (q2.1 hq3)] at hR; exact hR _ s H
      · rw [if_neg fun x => hq3 (q2.2 x)] at hR
        refine nn (ldEl (j := 3) H 1 rfl he hk o.state (by rw [e1]; rfl) ?_)
        refine br beq_iff_eq (fun h1 => ?_) fun h1 => ?_
        · rw [if_pos h1] at hR
          refine nn (ldEl (j := 4) H 1 rfl he hk o.heard (by rw [e1]; rfl) ?_)
          refine nn (stEl (E := eRow) (j := 4) { o with heard := if now > o.heard then now else o.heard } H 1 rfl he hk rfl (by rw [e1]; rfl) fun h H => ?_)
          refine nn (ldElS (j := 3) H 1 rfl he hk o.state rfl ?_)
          have e2 := (cur_some hs hcu).2.2
          subst e2
          exact hR _ s H
        · rw [if_neg h1] at hR
          refine nn (ldEl (j := 3) H 1 rfl he hk o.state (by rw [e1]; rfl) ?_)
          exact hR _ s H
theorem status_State_ok {tx attempt : Int} {R : Int → Heap → Prop} (H : At h0 h (tabL d ty s l ++ F)) (ho : SOk N l) (hN : N ≤ 100000) (hR : ∀ h', At h0 h' (tabL d ty s l ++ F) → R (stateM l tx attempt) h') : C_status_Table_State (some ⟨d, 0, none⟩) tx attempt h R := by
  refine A_status_Table_State ?_
  unfold S_status_Table_State
  have hs := ho.srt
  have hln := ho.len
  unfold stateM at hR
  refine brF (status_how_ok H hs (by omega) (fun hcu h' H => ?_) fun o e q h' hcu hk e1 he q1 q2 H => ?_)
  · rw [hcu] at hR
    exact brY rfl (hR _ H)
  · rw [hcu] at hR
    dsimp only at hR
    refine brD (fun hq => ?_) fun hq => ?_
    · rw [if_pos (q1.1 hq)] at hR; exact hR _ H
    · rw [if_neg fun x => hq (q1.2 x)] at hR
      refine brD (fun hq3 => ?_) fun hq3 => ?_
      · rw [if_pos (q2.1 hq3)] at hR; exact hR _ H
      · rw [if_neg fun x => hq3 (q2.2 x)] at hR
        refine nn (ldEl (j := 3) H 1 rfl he hk o.state (by rw [e1]; rfl) ?_)
        exact hR _ H
theorem status_Row_ok {tx : Int} {R : KL [.int .i64, .int .i64, .int .i64, .int .i64, .int .i64] → Bool → Heap → Prop} (H : At h0 h (tabL d ty s l ++ F)) (ho : SOk N l) (hN : N ≤ 100000) (hb : cur l tx = none → ∀ h', At h0 h' (tabL d ty s l ++ F) → R (0, 0, 0, 0, 0, ()) false h')
    (hg : ∀ o h', cur l tx = some o → At h0 h' (tabL d ty s l ++ F) → R (o.tx, o.attempt, o.stamp, o.state, o.heard, ()) true h') : C_status_Table_Row (some ⟨d, 0, none⟩) tx h R := by
  refine A_status_Table_Row ?_
  unfold S_status_Table_Row
  have hs := ho.srt
  have hln := ho.len
  repeat (first | with_reducible refine nn ?_ | with_reducible refine let_ ?_ | with_reducible refine brSome ?_ | with_reducible refine brF ?_ | with_reducible refine brT ?_ | ((with_reducible apply ldAt H 0); exact rfl; exact rfl) | ((with_reducible apply ldAt0 H 0); exact rfl; exact rfl) | ((with_reducible apply stAt H 0); exact rfl; exact rfl; intro h H) | ((with_reducible apply stAt0 H 0); exact rfl; exact rfl; intro h H) | ((with_reducible apply allocAt H); intro h b H) | ((with_reducible refine ⟨?_, ?_⟩); first | ((with_reducible apply ldAt H 0); exact rfl; exact rfl; exact rfl) | ((with_reducible apply ldAt0 H 0); exact rfl; exact rfl; exact rfl)))
  refine status_find_ok (F := _ :: F) (H.mv 1 2) hs (by omega) fun h' H => ?_
  have tmp : ∀ {h' : Heap} {q : Res}, At h0 h' (tabL d ty s l ++ (q :: F)) → At h0 h' (tabL d ty s l ++ F) := fun H => (H.mv 2 1).tail
  cases hcu : cur l tx with
  | none =>
    refine brT ?_
    repeat (first | with_reducible refine nn ?_ | with_reducible refine let_ ?_ | with_reducible refine brSome ?_ | with_reducible refine brF ?_ | with_reducible refine brT ?_ | ((with_reducible apply ldAt H 0); exact rfl; exact rfl) | ((with_reducible apply ldAt0 H 0); exact rfl; exact rfl) | ((with_reducible apply ldAt H 1); exact rfl; exact rfl) | ((with_reducible apply ldAt0 H 1); exact rfl; exact rfl) | ((with_reducible apply ldAt H 2); exact rfl; exact rfl) | ((with_reducible apply ldAt0 H 2); exact rfl; exact rfl) | ((with_reducible apply stAt H 0); exact rfl; exact rfl; intro h H) | ((with_reducible apply stAt0 H 0); exact rfl; exact rfl; intro h H) | ((with_reducible apply stAt H 1); exact rfl; exact rfl; intro h H) | ((with_reducible apply stAt0 H 1); exact rfl; exact rfl; intro h H) | ((with_reducible apply stAt H 2); exact rfl; exact rfl; intro h H) | ((with_reducible apply stAt0 H 2); exact rfl; exact rfl; intro h H) | ((with_reducible apply allocAt H); intro h b H) | ((with_reducible refine ⟨?_, ?_⟩); first | ((with_reducible apply ldAt H 0); exact rfl; exact rfl; exact rfl) | ((with_reducible apply ldAt0 H 0); exact rfl; exact rfl; exact rfl) | ((with_reducible apply ldAt H 1); exact rfl; exact rfl; exact rfl) | ((with_reducible apply ldAt0 H 1); exact rfl; exact rfl; exact rfl) | ((with_reducible apply ldAt H 2); exact rfl; exact rfl; exact rfl) | ((with_reducible apply ldAt0 H 2); exact rfl; exact rfl; exact rfl)))
    exact hb hcu _ (tmp H)
  | some o =>
    obtain ⟨hk, e1, e2⟩ := cur_some hs hcu
    refine brF ?_
    repeat (first | with_reducible refine nn ?_ | with_reducible refine let_ ?_ | with_reducible refine brSome ?_ | with_reducible refine brF ?_ | with_reducible refine brT ?_ | ((with_reducible apply ldAt H 0); exact rfl; exact rfl) | ((with_reducible apply ldAt0 H 0); exact rfl; exact rfl) | ((with_reducible apply stAt H 0); exact rfl; exact rfl; intro h H) | ((with_reducible apply stAt0 H 0); exact rfl; exact rfl; intro h H) | ((with_reducible apply allocAt H); intro h b H) | ((with_reducible refine ⟨?_, ?_⟩); first | ((with_reducible apply ldAt H 0); exact rfl; exact rfl; exact rfl) | ((with_reducible apply ldAt0 H 0); exact rfl; exact rfl; exact rfl)))
    refine ixAt H 1 rfl (lo l tx) rfl hk fun e he => ?_
    refine ldEl0 H 1 rfl he hk o.tx (by rw [e1]; rfl) (ldEl (j := 1) H 1 rfl he hk o.attempt (by rw [e1]; rfl) (ldEl (j := 2) H 1 rfl he hk o.stamp (by rw [e1]; rfl) (ldEl (j := 3) H 1 rfl he hk o.state (by rw [e1]; rfl) (ldEl (j := 4) H 1 rfl he hk o.heard (by rw [e1]; rfl) ?_))))
    repeat (first | with_reducible refine nn ?_ | with_reducible refine let_ ?_ | with_reducible refine brSome ?_ | with_reducible refine brF ?_ | with_reducible refine brT ?_ | ((with_reducible apply ldAt H 0); exact rfl; exact rfl) | ((with_reducible apply ldAt0 H 0); exact rfl; exact rfl) | ((with_reducible apply ldAt H 1); exact rfl; exact rfl) | ((with_reducible apply ldAt0 H 1); exact rfl; exact rfl) | ((with_reducible apply ldAt H 2); exact rfl; exact rfl) | ((with_reducible apply ldAt0 H 2); exact rfl; exact rfl) | ((with_reducible apply stAt H 0); exact rfl; exact rfl; intro h H) | ((with_reducible apply stAt0 H 0); exact rfl; exact rfl; intro h H) | ((with_reducible apply stAt H 1); exact rfl; exact rfl; intro h H) | ((with_reducible apply stAt0 H 1); exact rfl; exact rfl; intro h H) | ((with_reducible apply stAt H 2); exact rfl; exact rfl; intro h H) | ((with_reducible apply stAt0 H 2); exact rfl; exact rfl; intro h H) | ((with_reducible apply allocAt H); intro h b H) | ((with_reducible refine ⟨?_, ?_⟩); first | ((with_reducible apply ldAt H 0); exact rfl; exact rfl; exact rfl) | ((with_reducible apply ldAt0 H 0); exact rfl; exact rfl; exact rfl) | ((with_reducible apply ldAt H 1); exact rfl; exact rfl; exact rfl) | ((with_reducible apply ldAt0 H 1); exact rfl; exact rfl; exact rfl) | ((with_reducible apply ldAt H 2); exact rfl; exact rfl; exact rfl) | ((with_reducible apply ldAt0 H 2); exact rfl; exact rfl; exact rfl)))
    exact hg o _ hcu (tmp H)
/-- A clone of what a slice reads. -/
theorem Clone_row_ok {sl : Sl} {xs : List SRow} {R : Sl → Heap → Prop} (W : RdS h 5 sl (eRow.fl xs)) (hlen : xs.length ≤ 10000000) (hR : ∀ r h', At h h' [.own r 5 (eRow.fl xs)] → R r h') : C_slices_Clone_api_Row_api_Row sl h R := by
  refine A_slices_Clone_api_Row_api_Row ?_
  unfold S_slices_Clone_api_Row_api_Row
  have H := At.start h
  refine brB (fun ha => ?_) fun ha => ?_
  · have hl0 : xs = [] := by
      apply List.eq_nil_of_length_eq_zero
      apply Nat.eq_zero_of_not_pos
      intro hp
      obtain ⟨g, o, hs, _⟩ := W.2 (by rw [eRow.fl_len]; omega)
      rw [hs] at ha; cases ha
    subst hl0
    exact hR _ _ (H.nil 5)
  · refine allocAt (cs := []) H fun h1 b H1 => ?_
    have H2 := H1.as_ 0 rfl (.own ⟨some ⟨b, 0, none⟩, 0, 0⟩ 5 (eRow.fl [])) (Own.full (H1.get 0 rfl : Blk h1 b _ []) (sz := 5) (n := 0) rfl (by decide)) (fun g hg => by have hg : some b = some g := hg; injection hg with hg; exact hg.symm)
    refine appAt (ys := xs) TRo H2 0 rfl (H2.arg W) (by simp; omega) (by simp; omega) fun s' h' H3 => ?_
    rw [List.nil_append] at H3
    exact hR s' h' H3
theorem status_Rows_ok {R : Sl → Heap → Prop} (H : At h0 h (tabL d ty s l ++ F)) (hln : l.length ≤ 100000) (hR : ∀ r h', At h0 h' (.own r 5 (eRow.fl l) :: (tabL d ty s l ++ F)) → R r h') : C_status_Table_Rows (some ⟨d, 0, none⟩) h R := by
  refine A_status_Table_Rows ?_
  unfold S_status_Table_Rows
  refine brF ?_
  repeat (first | with_reducible refine nn ?_ | with_reducible refine let_ ?_ | with_reducible refine brSome ?_ | with_reducible refine brF ?_ | with_reducible refine brT ?_ | ((with_reducible apply ldAt H 0); exact rfl; exact rfl) | ((with_reducible apply ldAt0 H 0); exact rfl; exact rfl) | ((with_reducible apply stAt H 0); exact rfl; exact rfl; intro h H) | ((with_reducible apply stAt0 H 0); exact rfl; exact rfl; intro h H) | ((with_reducible apply allocAt H); intro h b H) | ((with_reducible refine ⟨?_, ?_⟩); first | ((with_reducible apply ldAt H 0); exact rfl; exact rfl; exact rfl) | ((with_reducible apply ldAt0 H 0); exact rfl; exact rfl; exact rfl)))
  exact Clone_row_ok (H.rdo 1 rfl) (by omega) fun r h' H2 => hR r h' (H.join H2)
def silB (now wait : Int) (r : SRow) : Bool := decide (r.state = 1 ∧ now - r.heard > wait)
def silM (l : List SRow) (now wait : Int) : List SRow := if now < 0 ∨ now > 1099511627776 ∨ wait < 0 ∨ wait > 1099511627776 then [] else l.filter (silB now wait)
theorem status_Silent_ok {now wait : Int} {R : Sl → Heap → Prop} (H : At h0 h (tabL d ty s l ++ F)) (ho : SOk N l) (hN : N ≤ 100000) (hR : ∀ r h', At h0 h' (.own r 5 (eRow.fl (silM l now wait)) :: (tabL d ty s l ++ F)) → R r h') : C_status_Table_Silent (some ⟨d, 0, none⟩) now wait h R := by
  refine A_status_Table_Silent ?_
  unfold S_status_Table_Silent
  have hsn := H.n 1 rfl
  have hln := ho.len
  unfold silM at hR
  refine join1 (s1 := .one .bool) (fun (b : Bool) h1 => h1 = h ∧ (b = true ↔ (now < 0 ∨ now > 1099511627776 ∨ wait < 0 ∨ wait > 1099511627776))) (fun _ (b : Bool) h1 hJ => ?_) ?_
  · obtain ⟨rfl, hb⟩ := hJ
    refine brB (fun hc => ?_) fun hc => ?_
    · rw [if_pos (hb.1 hc)] at hR
      exact hR _ _ (H.nil 5)
    · have hn : ¬ (now < 0 ∨ now > 1099511627776 ∨ wait < 0 ∨ wait > 1099511627776) := fun x => by rw [hb.2 x] at hc; cases hc
      rw [if_neg hn] at hR
      repeat (first | with_reducible refine nn ?_ | with_reducible refine let_ ?_ | with_reducible refine brSome ?_ | with_reducible refine brF ?_ | with_reducible refine brT ?_ | ((with_reducible apply ldAt H 0); exact rfl; exact rfl) | ((with_reducible apply ldAt0 H 0); exact rfl; exact rfl) | ((with_reducible apply stAt H 0); exact rfl; exact rfl; intro h H) | ((with_reducible apply stAt0 H 0); exact rfl; exact rfl; intro h H) | ((with_reducible apply allocAt H); intro h b H) | ((with_reducible refine ⟨?_, ?_⟩); first | ((with_reducible apply ldAt H 0); exact rfl; exact rfl; exact rfl) | ((with_reducible apply ldAt0 H 0); exact rfl; exact rfl; exact rfl)))
      refine loop2 (s1 := .one .sl) (s2 := .one (.int .i64)) (fun (out : Sl) (x : Int) h2 => ∃ j : Nat, x = j ∧ j ≤ l.length ∧ At h0 h2 (.own out 5 (eRow.fl ((l.take j).filter (silB now wait))) :: (tabL d ty s l ++ F))) (fun _ (x : Int) _ => (l.length - x).toNat)
        ⟨0, rfl, Nat.zero_le _, H.nil 5⟩ fun _ (out : Sl) (x : Int) h2 hI => ?_
      obtain ⟨j, rfl, hj, H⟩ := hI
      refine brD (fun hc2 => ?_) fun hc2 => ?_
      · have hj2 : j < l.length := by omega
        have hok := ho.ok _ (List.getElem_mem hj2)
        unfold okRow rightB at hok
        have fl : (l.take (j + 1)).filter (silB now wait) = (l.take j).filter (silB now wait) ++ (if silB now wait l[j] = true then [l[j]] else []) := by
          rw [take_snoc l j hj2, List.filter_append]
          congr 1
          cases hsb : silB now wait l[j] <;> simp [hsb]
        refine ixAt H 2 rfl j rfl hj2 fun e he => ?_
        repeat (first | with_reducible refine nn ?_ | with_reducible refine let_ ?_ | with_reducible refine brSome ?_ | with_reducible refine brF ?_ | with_reducible refine brT ?_ | ((with_reducible apply ldAt H 0); exact rfl; exact rfl) | ((with_reducible apply ldAt0 H 0); exact rfl; exact rfl) | ((with_reducible apply ldAt H 1); exact rfl; exact rfl) | ((with_reducible apply ldAt0 H 1); exact rfl; exact rfl) | ((with_reducible apply ldAt H 2); exact rfl; exact rfl) | ((with_reducible apply ldAt0 H 2); exact rfl; exact rfl) | ((with_reducible apply ldEl H 0); exact rfl; assumption; (case hk => assumption); exact rfl) | ((with_reducible apply ldEl0 H 0); exact rfl; assumption; (case hk => assumption); exact rfl) | ((with_reducible apply ldElS H 0); exact rfl; assumption; (case hk => assumption); exact rfl) | ((with_reducible apply ldElS0 H 0); exact rfl; assumption; (case hk => assumption); exact rfl) | ((with_reducible apply ldEl H 1); exact rfl; assumption; (case hk => assumption); exact rfl) | ((with_reducible apply ldEl0 H 1); exact rfl; assumption; (case hk => assumption); exact rfl) | ((with_reducible apply ldElS H 1); exact rfl; assumption; (case hk => assumption); exact rfl) | ((with_reducible apply ldElS0 H 1); exact rfl; assumption; (case hk => assumption); exact rfl) | ((with_reducible apply ldEl H 2); exact rfl; assumption; (case hk => assumption); exact rfl) | ((with_reducible apply ldEl0 H 2); exact rfl; assumption; (case hk => assumption); exact rfl) | ((with_reducible apply ldElS H 2); exact rfl; assumption; (case hk => assumption); exact rfl) | ((with_reducible apply ldElS0 H 2); exact rfl; assumption; (case hk => assumption); exact rfl) | ((with_reducible apply stAt H 0); exact rfl; exact rfl; intro h H) | ((with_reducible apply stAt0 H 0); exact rfl; exact rfl; intro h H) | ((with_reducible apply stAt H 1); exact rfl; exact rfl; intro h H) | ((with_reducible apply stAt0 H 1); exact rfl; exact rfl; intro h H) | ((with_reducible apply stAt H 2); exact rfl; exact rfl; intro h H) | ((with_reducible apply stAt0 H 2); exact rfl; exact rfl; intro h H) | ((with_reducible apply stElS (E := eRow) ⟨_, _, _, _, _⟩ H 0); exact rfl; assumption; (case hk => assumption); exact rfl; (first | exact rfl | (dsimp only [eRow, List.set_cons_succ, List.set_cons_zero] <;> exact rfl)); intro h H) | ((with_reducible apply stElS0 (E := eRow) ⟨_, _, _, _, _⟩ H 0); exact rfl; assumption; (case hk => assumption); (first | exact rfl | (dsimp only [eRow, List.set_cons_succ, List.set_cons_zero] <;> exact rfl)); intro h H) | ((with_reducible apply stEl (E := eRow) ⟨_, _, _, _, _⟩ H 0); exact rfl; assumption; (case hk => assumption); exact rfl; (first | exact rfl | (dsimp only [eRow, List.set_cons_succ, List.set_cons_zero] <;> exact rfl)); intro h H) | ((with_reducible apply stEl0 (E := eRow) ⟨_, _, _, _, _⟩ H 0); exact rfl; assumption; (case hk => assumption); (first | exact rfl | (dsimp only [eRow, List.set_cons_succ, List.set_cons_zero] <;> exact rfl)); intro h H) | ((with_reducible apply stElS (E := eRow) ⟨_, _, _, _, _⟩ H 1); exact rfl; assumption; (case hk => assumption); exact rfl; (first | exact rfl | (dsimp only [eRow, List.set_cons_succ, List.set_cons_zero] <;> exact rfl)); intro h H) | ((with_reducible apply stElS0 (E := eRow) ⟨_, _, _, _, _⟩ H 1); exact rfl; assumption; (case hk => assumption); (first | exact rfl | (dsimp only [eRow, List.set_cons_succ, List.set_cons_zero] <;> exact rfl)); intro h H) | ((with_reducible apply stEl (E := eRow) ⟨_, _, _, _, _⟩ H 1); exact rfl; assumption; (case hk => assumption); exact rfl; (first | exact rfl | (dsimp only [eRow, List.set_cons_succ, List.set_cons_zero] <;> exact rfl)); intro h H) | ((with_reducible apply stEl0 (E := eRow) ⟨_, _, _, _, _⟩ H 1); exact rfl; assumption; (case hk => assumption); (first | exact rfl | (dsimp only [eRow, List.set_cons_succ, List.set_cons_zero] <;> exact rfl)); intro h H) | ((with_reducible apply stElS (E := eRow) ⟨_, _, _, _, _⟩ H 2); exact rfl; assumption; (case hk => assumption); exact rfl; (first | exact rfl | (dsimp only [eRow, List.set_cons_succ, List.set_cons_zero] <;> exact rfl)); intro h H) | ((with_reducible apply stElS0 (E := eRow) ⟨_, _, _, _, _⟩ H 2); exact rfl; assumption; (case hk => assumption); (first | exact rfl | (dsimp only [eRow, List.set_cons_succ, List.set_cons_zero] <;> exact rfl)); intro h H) | ((with_reducible apply stEl (E := eRow) ⟨_, _, _, _, _⟩ H 2); exact rfl; assumption; (case hk => assumption); exact rfl; (first | exact rfl | (dsimp only [eRow, List.set_cons_succ, List.set_cons_zero] <;> exact rfl)); intro h H) | ((with_reducible apply stEl0 (E := eRow) ⟨_, _, _, _, _⟩ H 2); exact rfl; assumption; (case hk => assumption); (first | exact rfl | (dsimp only [eRow, List.set_cons_succ, List.set_cons_zero] <;> exact rfl)); intro h H) | ((with_reducible apply allocAt H); intro h b H) | ((with_reducible refine ⟨?_, ?_⟩); first | ((with_reducible apply ldAt H 0); exact rfl; exact rfl; exact rfl) | ((with_reducible apply ldAt0 H 0); exact rfl; exact rfl; exact rfl) | ((with_reducible apply ldAt H 1); exact rfl; exact rfl; exact rfl) | ((with_reducible apply ldAt0 H 1); exact rfl; exact rfl; exact rfl) | ((with_reducible apply ldAt H 2); exact rfl; exact rfl; exact rfl) | ((with_reducible apply ldAt0 H 2); exact rfl; exact rfl; exact rfl) | ((with_reducible apply ldEl H 0); exact rfl; assumption; (case hk => assumption); exact rfl; exact rfl) | ((with_reducible apply ldEl0 H 0); exact rfl; assumption; (case hk => assumption); exact rfl; exact rfl) | ((with_reducible apply ldElS H 0); exact rfl; assumption; (case hk => assumption); exact rfl; exact rfl) | ((with_reducible apply ldElS0 H 0); exact rfl; assumption; (case hk => assumption); exact rfl; exact rfl) | ((with_reducible apply ldEl H 1); exact rfl; assumption; (case hk => assumption); exact rfl; exact rfl) | ((with_reducible apply ldEl0 H 1); exact rfl; assumption; (case hk => assumption); exact rfl; exact rfl) | ((with_reducible apply ldElS H 1); exact rfl; assumption; (case hk => assumption); exact rfl; exact rfl) | ((with_reducible apply ldElS0 H 1); exact rfl; assumption; (case hk => assumption); exact rfl; exact rfl) | ((with_reducible apply ldEl H 2); exact rfl; assumption; (case hk => assumption); exact rfl; exact rfl) | ((with_reducible apply ldEl0 H 2); exact rfl; assumption; (case hk => assumption); exact rfl; exact rfl) | ((with_reducible apply ldElS H 2); exact rfl; assumption; (case hk => assumption); exact rfl; exact rfl) | ((with_reducible apply ldElS0 H 2); exact rfl; assumption; (case hk => assumption); exact rfl; exact rfl)))
        have no : silB now wait l[j] = false → ∃ j_1 : Nat, IntKind.i64.wrap ((j : Int) + 1) = j_1 ∧ j_1 ≤ l.length ∧ At h0 h (.own out 5 (eRow.fl ((l.take j_1).filter (silB now wait))) :: (tabL d ty s l ++ F)) := fun hf => by
          rw [w64 (by omega) (by omega)]
          refine ⟨j + 1, by omega, by omega, ?_⟩
          rw [fl, hf, if_neg (by decide), List.append_nil]
          exact H.tail
        refine br beq_iff_eq (fun h1 => ?_) fun h1 => ?_
        · repeat (first | with_reducible refine nn ?_ | with_reducible refine let_ ?_ | with_reducible refine brSome ?_ | with_reducible refine brF ?_ | with_reducible refine brT ?_ | ((with_reducible apply ldAt H 0); exact rfl; exact rfl) | ((with_reducible apply ldAt0 H 0); exact rfl; exact rfl) | ((with_reducible apply stAt H 0); exact rfl; exact rfl; intro h H) | ((with_reducible apply stAt0 H 0); exact rfl; exact rfl; intro h H) | ((with_reducible apply allocAt H); intro h b H) | ((with_reducible refine ⟨?_, ?_⟩); first | ((with_reducible apply ldAt H 0); exact rfl; exact rfl; exact rfl) | ((with_reducible apply ldAt0 H 0); exact rfl; exact rfl; exact rfl)))
          rw [w64 (n := now - l[j].heard) (by omega) (by omega)]
          refine brD (fun h3 => ?_) fun h3 => ?_
          · have hsb : silB now wait l[j] = true := decide_eq_true ⟨h1, h3⟩
            repeat (first | with_reducible refine nn ?_ | with_reducible refine let_ ?_ | with_reducible refine brSome ?_ | with_reducible refine brF ?_ | with_reducible refine brT ?_ | ((with_reducible apply ldAt H 0); exact rfl; exact rfl) | ((with_reducible apply ldAt0 H 0); exact rfl; exact rfl) | ((with_reducible apply stAt H 0); exact rfl; exact rfl; intro h H) | ((with_reducible apply stAt0 H 0); exact rfl; exact rfl; intro h H) | ((with_reducible apply allocAt H); intro h b H) | ((with_reducible refine ⟨?_, ?_⟩); first | ((with_reducible apply ldAt H 0); exact rfl; exact rfl; exact rfl) | ((with_reducible apply ldAt0 H 0); exact rfl; exact rfl; exact rfl)))
            have hfl : ((l.take j).filter (silB now wait)).length ≤ j := Nat.le_trans (List.length_filter_le ..) (by rw [List.length_take]; omega)
            refine app1B TRo H 2 rfl 0 rfl l[j] rfl (by omega) (by omega) fun s3 h H => ?_
            rw [w64 (by omega) (by omega)]
            refine ⟨⟨j + 1, by omega, by omega, ?_⟩, by omega⟩
            rw [fl, hsb, if_pos rfl]
            exact H.tail.tail
          · refine ⟨no (decide_eq_false fun x => h3 x.2), ?_⟩
            rw [w64 (by omega) (by omega)]; omega
        · refine ⟨no (decide_eq_false fun x => h1 x.1), ?_⟩
          rw [w64 (by omega) (by omega)]; omega
      · have hjl : j = l.length := by omega
        subst hjl
        rw [List.take_length] at H
        exact hR _ _ H
  · refine brF (brD (fun h1 => ⟨rfl, fun _ => .inl h1, fun _ => rfl⟩) fun h1 => brD (fun h2 => ⟨rfl, fun _ => .inr (.inl h2), fun _ => rfl⟩) fun h2 => brD (fun h3 => ⟨rfl, fun _ => .inr (.inr (.inl h3)), fun _ => rfl⟩) fun h3 => ⟨rfl, ?_⟩)
    rw [decide_eq_true_eq]
    omega
def rightR (xs : List SRow) : Prop := Srt xs ∧ ∀ r ∈ xs, okRow r
theorem status_From_ok {sl : Sl} {xs : List SRow} {R : Option Addr → Int → Heap → Prop} (W : RdS h 5 sl (eRow.fl xs)) (hlen : xs.length ≤ 100000) (hb : ¬ rightR xs → ∀ h', Ext h.size h h' → R none 2 h') (hg : rightR xs → ∀ h' d ty s, At h h' (tabL d ty s xs ++ []) → R (some ⟨d, 0, none⟩) 0 h') : C_status_From sl h R := by
  refine A_status_From ?_
  unfold S_status_From
  have hsn := rdn W
  refine Clone_row_ok W (by omega) fun r h1 H => ?_
  refine allocAt H fun h2 d H2 => ?_
  refine loop1 (s1 := .one (.int .i64)) (fun (x : Int) h3 => ∃ j : Nat, x = j ∧ j ≤ xs.length ∧ At h h3 (tabL d 150 r xs ++ []) ∧ (∀ i, (hi : i < xs.length) → i < j → okRow xs[i]) ∧ ∀ i, (hi : i + 1 < xs.length) → i + 1 < j → xs[i].tx < xs[i + 1].tx) (fun (x : Int) _ => (xs.length - x).toNat)
    ⟨0, rfl, Nat.zero_le _, H2, fun i _ hi => absurd hi (Nat.not_lt_zero _), fun i _ hi => absurd hi (Nat.not_lt_zero _)⟩ fun _ (x : Int) h3 hI => ?_
  obtain ⟨j, rfl, hj, H, hok, hsr⟩ := hI
  refine brD (fun hc => ?_) fun hc => ?_
  · have hj2 : j < xs.length := by omega
    refine ixR (H.arg W) j rfl hj2 fun e he => ?_
    repeat (first | with_reducible refine nn ?_ | with_reducible refine let_ ?_ | with_reducible refine brSome ?_ | with_reducible refine brF ?_ | with_reducible refine brT ?_ | ((with_reducible apply ldAt H 0); exact rfl; exact rfl) | ((with_reducible apply ldAt0 H 0); exact rfl; exact rfl) | ((with_reducible apply ldR (H.arg W)); assumption; (case hk => assumption); exact rfl) | ((with_reducible apply ldR0 (H.arg W)); assumption; (case hk => assumption); exact rfl) | ((with_reducible apply stAt H 0); exact rfl; exact rfl; intro h H) | ((with_reducible apply stAt0 H 0); exact rfl; exact rfl; intro h H) | ((with_reducible apply allocAt H); intro h b H) | ((with_reducible refine ⟨?_, ?_⟩); first | ((with_reducible apply ldAt H 0); exact rfl; exact rfl; exact rfl) | ((with_reducible apply ldAt0 H 0); exact rfl; exact rfl; exact rfl)))
    have bad : ¬ okRow xs[j] → R none 2 h := fun hn => hb (fun hr => hn (hr.2 _ (List.getElem_mem hj2))) _ H.ext
    refine status_right_ok (brNot (fun hr => bad fun hx => of_decide_eq_false hr hx.1) fun hr => ?_)
    have hr := of_decide_eq_true hr
    repeat (first | with_reducible refine nn ?_ | with_reducible refine let_ ?_ | with_reducible refine brSome ?_ | with_reducible refine brF ?_ | with_reducible refine brT ?_ | ((with_reducible apply ldAt H 0); exact rfl; exact rfl) | ((with_reducible apply ldAt0 H 0); exact rfl; exact rfl) | ((with_reducible apply stAt H 0); exact rfl; exact rfl; intro h H) | ((with_reducible apply stAt0 H 0); exact rfl; exact rfl; intro h H) | ((with_reducible apply allocAt H); intro h b H) | ((with_reducible refine ⟨?_, ?_⟩); first | ((with_reducible apply ldAt H 0); exact rfl; exact rfl; exact rfl) | ((with_reducible apply ldAt0 H 0); exact rfl; exact rfl; exact rfl)))
    refine brD (fun h1 => bad fun hx => by unfold okRow at hx; omega) fun h1 => ?_
    repeat (first | with_reducible refine nn ?_ | with_reducible refine let_ ?_ | with_reducible refine brSome ?_ | with_reducible refine brF ?_ | with_reducible refine brT ?_ | ((with_reducible apply ldAt H 0); exact rfl; exact rfl) | ((with_reducible apply ldAt0 H 0); exact rfl; exact rfl) | ((with_reducible apply stAt H 0); exact rfl; exact rfl; intro h H) | ((with_reducible apply stAt0 H 0); exact rfl; exact rfl; intro h H) | ((with_reducible apply allocAt H); intro h b H) | ((with_reducible refine ⟨?_, ?_⟩); first | ((with_reducible apply ldAt H 0); exact rfl; exact rfl; exact rfl) | ((with_reducible apply ldAt0 H 0); exact rfl; exact rfl; exact rfl)))
    refine brD (fun h2 => bad fun hx => by unfold okRow at hx; omega) fun h2 => ?_
    repeat (first | with_reducible refine nn ?_ | with_reducible refine let_ ?_ | with_reducible refine brSome ?_ | with_reducible refine brF ?_ | with_reducible refine brT ?_ | ((with_reducible apply ldAt H 0); exact rfl; exact rfl) | ((with_reducible apply ldAt0 H 0); exact rfl; exact rfl) | ((with_reducible apply stAt H 0); exact rfl; exact rfl; intro h H) | ((with_reducible apply stAt0 H 0); exact rfl; exact rfl; intro h H) | ((with_reducible apply allocAt H); intro h b H) | ((with_reducible refine ⟨?_, ?_⟩); first | ((with_reducible apply ldAt H 0); exact rfl; exact rfl; exact rfl) | ((with_reducible apply ldAt0 H 0); exact rfl; exact rfl; exact rfl)))
    refine brD (fun h3 => bad fun hx => by unfold okRow at hx; omega) fun h3 => ?_
    repeat (first | with_reducible refine nn ?_ | with_reducible refine let_ ?_ | with_reducible refine brSome ?_ | with_reducible refine brF ?_ | with_reducible refine brT ?_ | ((with_reducible apply ldAt H 0); exact rfl; exact rfl) | ((with_reducible apply ldAt0 H 0); exact rfl; exact rfl) | ((with_reducible apply stAt H 0); exact rfl; exact rfl; intro h H) | ((with_reducible apply stAt0 H 0); exact rfl; exact rfl; intro h H) | ((with_reducible apply allocAt H); intro h b H) | ((with_reducible refine ⟨?_, ?_⟩); first | ((with_reducible apply ldAt H 0); exact rfl; exact rfl; exact rfl) | ((with_reducible apply ldAt0 H 0); exact rfl; exact rfl; exact rfl)))
    refine brD (fun h4 => bad fun hx => by unfold okRow at hx; omega) fun h4 => ?_
    have hokj : okRow xs[j] := ⟨hr, by omega, by omega, by omega, by omega⟩
    have hok' : ∀ i, (hi : i < xs.length) → i < j + 1 → okRow xs[i] := fun i hi hij => by
      by_cases e : i < j
      · exact hok i hi e
      · obtain rfl : i = j := by omega
        exact hokj
    refine brD (fun h5 => ?_) fun h5 => ?_
    · obtain ⟨k, rfl⟩ : ∃ k, j = k + 1 := ⟨j - 1, by omega⟩
      rw [w64 (n := ((k + 1 : Nat) : Int) - 1) (by omega) (by omega)]
      refine ixR (H.arg W) k (by omega) (by omega) fun e he => ?_
      refine ldR0 (H.arg W) he (by omega) xs[k].tx rfl ?_
      repeat (first | with_reducible refine nn ?_ | with_reducible refine let_ ?_ | with_reducible refine brSome ?_ | with_reducible refine brF ?_ | with_reducible refine brT ?_ | ((with_reducible apply ldAt H 0); exact rfl; exact rfl) | ((with_reducible apply ldAt0 H 0); exact rfl; exact rfl) | ((with_reducible apply stAt H 0); exact rfl; exact rfl; intro h H) | ((with_reducible apply stAt0 H 0); exact rfl; exact rfl; intro h H) | ((with_reducible apply allocAt H); intro h b H) | ((with_reducible refine ⟨?_, ?_⟩); first | ((with_reducible apply ldAt H 0); exact rfl; exact rfl; exact rfl) | ((with_reducible apply ldAt0 H 0); exact rfl; exact rfl; exact rfl)))
      refine brD (fun h6 => hb (fun hx => ?_) _ H.ext) fun h6 => ?_
      · have := srt_lt hx.1 (show k < k + 1 by omega) hj2
        omega
      · rw [w64 (by omega) (by omega)]
        refine ⟨⟨k + 1 + 1, by omega, by omega, H.tail, hok', fun i hi hij => ?_⟩, by omega⟩
        by_cases e : i + 1 < k + 1
        · exact hsr i hi e
        · obtain rfl : i = k := by omega
          omega
    · rw [w64 (by omega) (by omega)]
      exact ⟨⟨j + 1, by omega, by omega, H.tail, hok', fun i hi hij => by omega⟩, by omega⟩
  · refine hg ⟨?_, fun r hr => ?_⟩ _ d _ _ H
    · have key : ∀ n i, (hi : i + n + 1 < xs.length) → xs[i].tx < xs[i + n + 1].tx := by
        intro n
        induction n with
        | zero => intro i hi; exact hsr i hi (by omega)
        | succ n ih =>
          intro i hi
          have a := ih i (by omega)
          have b := hsr (i + n + 1) (by omega) (by omega)
          have e : i + (n + 1) + 1 = i + n + 1 + 1 := by omega
          simp only [e]
          omega
      refine List.pairwise_iff_getElem.2 fun i k hi hk hik => ?_
      have := key (k - i - 1) i (by omega)
      have e : i + (k - i - 1) + 1 = k := by omega
      simp only [e] at this
      exact this
    · obtain ⟨i, hi, rfl⟩ := List.getElem_of_mem hr
      exact hok i hi (by omega)
theorem status_New_ok {R : Option Addr → Heap → Prop} (H : At h0 h L) (hR : ∀ h' d ty, At h0 h' (tabL d ty ⟨none, 0, 0⟩ [] ++ L) → R (some ⟨d, 0, none⟩) h') : C_status_New h R := by
  refine A_status_New ?_
  unfold S_status_New
  exact allocAt (H.nil 5) fun h' d H => hR h' d _ H
theorem new_sok : SOk 0 [] := ⟨List.Pairwise.nil, (fun r h => by cases h), Nat.le_refl _⟩
end
end Go.Proofs.Ytmpekddpehhdnaa
