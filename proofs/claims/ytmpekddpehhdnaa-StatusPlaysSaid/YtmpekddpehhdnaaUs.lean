/-
  Layer 16 (status): the document's act and rows; StatusPlays over the heap alone.
-/
import Derived.Test.YtmpekddpehhdnaaUr
import Derived.Test.YtmpekddpehhdnaaUg
namespace Go.Proofs.Ytmpekddpehhdnaa
open Go

section
variable {h0 h : Heap} {F : List Res} {d : Nat} {ty : TypeId} {s : Sl} {l L : List SRow} {N : Nat}
set_option maxHeartbeats 3200000 in
theorem ref16_Do_ok {kind tx attempt stamp now : Int} {R : Int → Int → Heap → Prop} (H : At h0 h (tabL d ty s L ++ F)) (hlen : L.length ≤ 90000) (ho : SOk N l) (hr : RelS l L) (hk : kind = 1 ∨ kind = 5 ∨ kind = 6 ∨ kind = 8) (hs0 : kind ≠ 1 → stamp = 0)
    (hR : ∀ h' s' L', At h0 h' (tabL d ty s' L' ++ F) → L'.length ≤ L.length + 1 → RelS (genM kind l tx attempt stamp now).1 L' → R (genM kind l tx attempt stamp now).2.1 (genM kind l tx attempt stamp now).2.2 h') : C_ref16_All_Do (some ⟨d, 0, none⟩) kind tx attempt stamp now h R := by
  refine A_ref16_All_Do ?_
  unfold S_ref16_All_Do
  refine join1 (s1 := .one .bool) (fun (q : Bool) h1 => (q = true ↔ (¬ rightB tx attempt now ∨ (kind = 1 ∧ (stamp < 1 ∨ stamp > 1099511627776)))) ∧ h1 = h) (fun _ (q : Bool) h1 hJ => ?_) ?_
  rotate_left
  · refine ref16_right_ok (brNot (fun hb => ⟨⟨fun _ => .inl (of_decide_eq_false hb), fun _ => rfl⟩, rfl⟩) fun hb => ?_)
    have hb := of_decide_eq_true hb
    refine br beq_iff_eq (fun h1 => ?_) fun h1 => ⟨⟨fun x => by (cases x), fun x => by rcases x with x | x; exact absurd hb x; exact absurd x.1 h1⟩, rfl⟩
    refine brD (fun h2 => ⟨⟨fun _ => .inr ⟨h1, .inl h2⟩, fun _ => rfl⟩, rfl⟩) fun h2 => ⟨?_, rfl⟩
    rw [decide_eq_true_eq]
    exact ⟨fun x => .inr ⟨h1, .inr x⟩, fun x => by rcases x with x | ⟨_, x | x⟩; exact absurd hb x; exact absurd x h2; exact x⟩
  obtain ⟨hq, rfl⟩ := hJ
  unfold genM at hR
  refine brB (fun hqt => ?_) fun hqf => ?_
  · rw [if_pos (hq.1 hqt)] at hR
    exact hR _ s L H (by omega) hr
  have hnb : ¬ (¬ rightB tx attempt now ∨ (kind = 1 ∧ (stamp < 1 ∨ stamp > 1099511627776))) := fun x => by rw [hq.2 x] at hqf; cases hqf
  rw [if_neg hnb] at hR
  have hst0 : 0 ≤ stamp := by
    by_cases h1 : kind = 1
    · apply Classical.byContradiction; intro hn; exact hnb (.inr ⟨h1, .inl (by omega)⟩)
    · rw [hs0 h1]; exact Int.le_refl _
  have hst1 : kind = 1 → 1 ≤ stamp := fun h1 => by
    apply Classical.byContradiction; intro hn; exact hnb (.inr ⟨h1, .inl (by omega)⟩)
  refine ref16_newest_ok H (by omega) fun b h2 hB H => ?_
  cases hc : cur l tx with
  | none =>
    have hb := hr.bestN hc hB
    subst hb
    rw [byHow_none hc] at hR
    refine join1 (s1 := .one .bool) (fun (q : Bool) h3 => q = false ∧ h3 = h2) (fun _ (q : Bool) h3 hJ => ?_) (brN rfl ⟨rfl, rfl⟩)
    obtain ⟨rfl, rfl⟩ := hJ
    refine brF (join1 (s1 := .one .bool) (fun (q : Bool) h4 => q = true ∧ h4 = h3) (fun _ (q : Bool) h4 hJ => ?_) (brY rfl ⟨rfl, rfl⟩))
    obtain ⟨rfl, rfl⟩ := hJ
    refine brT ?_
    refine ref16_newer_ok H (by omega) ho hr hst0 hst1 hk (fun o hc2 => by rw [hc] at hc2; cases hc2) fun res hres h' s' L' H hl hrel => ?_
    rw [← hres] at hR
    exact hR h' s' L' H hl hrel
  | some o =>
    obtain ⟨k, hkk, rfl, e, hmax⟩ := hr.bestS ho hc hB
    rw [byHow_some hc] at hR
    refine join1 (s1 := .one .bool) (fun (q : Bool) h3 => (q = true ↔ attempt < o.attempt) ∧ h3 = h2) (fun _ (q : Bool) h3 hJ => ?_) ?_
    rotate_left
    · refine brY (decide_eq_true (by omega)) ?_
      repeat (first | with_reducible refine nn ?_ | with_reducible refine let_ ?_ | with_reducible refine brSome ?_ | with_reducible refine brF ?_ | with_reducible refine brT ?_ | ((with_reducible apply ldAt H 0); exact rfl; exact rfl) | ((with_reducible apply ldAt0 H 0); exact rfl; exact rfl) | ((with_reducible apply stAt H 0); exact rfl; exact rfl; intro h H) | ((with_reducible apply stAt0 H 0); exact rfl; exact rfl; intro h H) | ((with_reducible apply allocAt H); intro h b H) | ((with_reducible refine ⟨?_, ?_⟩); first | ((with_reducible apply ldAt H 0); exact rfl; exact rfl; exact rfl) | ((with_reducible apply ldAt0 H 0); exact rfl; exact rfl; exact rfl)))
      refine ixAt H 1 rfl k rfl hkk fun e1 he => ?_
      refine ldEl (j := 1) H 1 rfl he hkk o.attempt (by rw [e]; rfl) ?_
      exact ⟨decide_eq_true_iff, rfl⟩
    obtain ⟨hq1, rfl⟩ := hJ
    refine brB (fun hqt => ?_) fun hqf1 => ?_
    · have hlt := hq1.1 hqt
      rw [if_neg (by omega), if_pos hlt] at hR
      refine br beq_iff_eq (fun h1 => ?_) fun h1 => ?_
      · rw [if_pos h1, if_pos h1] at hR; exact hR _ s L H (by omega) hr
      · rw [if_neg h1, if_neg h1] at hR; exact hR _ s L H (by omega) hr
    have hnlt : ¬ attempt < o.attempt := fun x => by rw [hq1.2 x] at hqf1; cases hqf1
    refine join1 (s1 := .one .bool) (fun (q : Bool) h4 => (q = true ↔ attempt > o.attempt) ∧ h4 = h3) (fun _ (q : Bool) h4 hJ => ?_) ?_
    rotate_left
    · refine brN (decide_eq_false (by omega)) ?_
      repeat (first | with_reducible refine nn ?_ | with_reducible refine let_ ?_ | with_reducible refine brSome ?_ | with_reducible refine brF ?_ | with_reducible refine brT ?_ | ((with_reducible apply ldAt H 0); exact rfl; exact rfl) | ((with_reducible apply ldAt0 H 0); exact rfl; exact rfl) | ((with_reducible apply stAt H 0); exact rfl; exact rfl; intro h H) | ((with_reducible apply stAt0 H 0); exact rfl; exact rfl; intro h H) | ((with_reducible apply allocAt H); intro h b H) | ((with_reducible refine ⟨?_, ?_⟩); first | ((with_reducible apply ldAt H 0); exact rfl; exact rfl; exact rfl) | ((with_reducible apply ldAt0 H 0); exact rfl; exact rfl; exact rfl)))
      refine ixAt H 1 rfl k rfl hkk fun e1 he => ?_
      refine ldEl (j := 1) H 1 rfl he hkk o.attempt (by rw [e]; rfl) ?_
      exact ⟨decide_eq_true_iff, rfl⟩
    obtain ⟨hq2, rfl⟩ := hJ
    refine brB (fun hqt => ?_) fun hqf2 => ?_
    · have hgt := hq2.1 hqt
      rw [if_pos hgt] at hR
      refine ref16_newer_ok H (by omega) ho hr hst0 hst1 hk (fun o' hc2 => by rw [hc] at hc2; injection hc2 with hc2; subst hc2; exact hgt) fun res hres h' s' L' H hl hrel => ?_
      rw [← hres] at hR
      exact hR h' s' L' H hl hrel
    have hngt : ¬ attempt > o.attempt := fun x => by rw [hq2.2 x] at hqf2; cases hqf2
    rw [if_neg hngt, if_neg hnlt] at hR
    repeat (first | with_reducible refine nn ?_ | with_reducible refine let_ ?_ | with_reducible refine brSome ?_ | with_reducible refine brF ?_ | with_reducible refine brT ?_ | ((with_reducible apply ldAt H 0); exact rfl; exact rfl) | ((with_reducible apply ldAt0 H 0); exact rfl; exact rfl) | ((with_reducible apply stAt H 0); exact rfl; exact rfl; intro h H) | ((with_reducible apply stAt0 H 0); exact rfl; exact rfl; intro h H) | ((with_reducible apply allocAt H); intro h b H) | ((with_reducible refine ⟨?_, ?_⟩); first | ((with_reducible apply ldAt H 0); exact rfl; exact rfl; exact rfl) | ((with_reducible apply ldAt0 H 0); exact rfl; exact rfl; exact rfl)))
    refine ixAt H 1 rfl k rfl hkk fun e1 he => ?_
    refine ldEl (j := 3) H 1 rfl he hkk o.state (by rw [e]; rfl) ?_
    refine join1 (s1 := .one .bool) (fun (q : Bool) h5 => (q = true ↔ (kind = 1 ∧ o.state = 3)) ∧ h5 = h4) (fun _ (q : Bool) h5 hJ => ?_) ?_
    rotate_left
    · refine br beq_iff_eq (fun h1 => ⟨?_, rfl⟩) fun h1 => ⟨⟨fun x => by (cases x), fun x => absurd x.1 h1⟩, rfl⟩
      rw [beq_iff_eq]
      exact ⟨fun x => ⟨h1, x⟩, fun x => x.2⟩
    obtain ⟨hq3, rfl⟩ := hJ
    refine brB (fun hqt => ?_) fun hqf3 => ?_
    · rw [if_pos (hq3.1 hqt)] at hR; exact hR _ s L H (by omega) hr
    have hn13 : ¬ (kind = 1 ∧ o.state = 3) := fun x => by rw [hq3.2 x] at hqf3; cases hqf3
    rw [if_neg hn13] at hR
    have etx := ((cur_iff ho.srt).1 hc).2
    obtain ⟨st1, st2, st3⟩ := same_tx kind now o
    have hrel : RelS (setR l (sameM kind now o)) (L.set k (sameM kind now o)) := hr.upd ho (by rw [st1, etx]; exact hc) st2 st3 hkk e
    have self : ∀ {q : SRow}, q = o → L.set k q = L := fun hq => by
      rw [hq, ← e]; exact List.set_getElem_self ..
    -- the row goes on, by kinds
    refine join1 (s1 := .one .bool) (fun (q : Bool) h6 => (q = true ↔ (kind = 5 ∧ o.state = 1)) ∧ h6 = h5) (fun _ (q : Bool) h6 hJ => ?_) ?_
    rotate_left
    · refine br beq_iff_eq (fun h1 => ⟨?_, rfl⟩) fun h1 => ⟨⟨fun x => by (cases x), fun x => absurd x.1 h1⟩, rfl⟩
      rw [beq_iff_eq]
      exact ⟨fun x => ⟨h1, x⟩, fun x => x.2⟩
    obtain ⟨hq5, rfl⟩ := hJ
    refine join0 (fun h7 => At h0 h7 (tabL d ty s (L.set k (if kind = 5 ∧ o.state = 1 then { o with state := 2 } else o)) ++ F)) (fun _ h7 H => ?_) ?_
    rotate_left
    · refine brB (fun hqt => ?_) fun hqf5 => ?_
      · repeat (first | with_reducible refine nn ?_ | with_reducible refine let_ ?_ | with_reducible refine brSome ?_ | with_reducible refine brF ?_ | with_reducible refine brT ?_ | ((with_reducible apply ldAt H 0); exact rfl; exact rfl) | ((with_reducible apply ldAt0 H 0); exact rfl; exact rfl) | ((with_reducible apply stAt H 0); exact rfl; exact rfl; intro h H) | ((with_reducible apply stAt0 H 0); exact rfl; exact rfl; intro h H) | ((with_reducible apply allocAt H); intro h b H) | ((with_reducible refine ⟨?_, ?_⟩); first | ((with_reducible apply ldAt H 0); exact rfl; exact rfl; exact rfl) | ((with_reducible apply ldAt0 H 0); exact rfl; exact rfl; exact rfl)))
        refine ixAt H 1 rfl k rfl hkk fun e1 he => ?_
        refine stEl (E := eRow) (j := 3) { o with state := 2 } H 1 rfl he hkk rfl (by rw [e]; rfl) fun h H => ?_
        rw [if_pos (hq5.1 hqt)]; exact H
      · rw [if_neg (c := kind = 5 ∧ o.state = 1) fun x => (by rw [hq5.2 x] at hqf5; exact nomatch hqf5), self rfl]; exact H
    refine join1 (s1 := .one .bool) (fun (q : Bool) h8 => (q = true ↔ (kind = 6 ∧ o.state = 1)) ∧ h8 = h7) (fun _ (q : Bool) h8 hJ => ?_) ?_
    rotate_left
    · refine br beq_iff_eq (fun h1 => ⟨?_, rfl⟩) fun h1 => ⟨⟨fun x => by (cases x), fun x => absurd x.1 h1⟩, rfl⟩
      rw [beq_iff_eq]
      exact ⟨fun x => ⟨h1, x⟩, fun x => x.2⟩
    obtain ⟨hq6, rfl⟩ := hJ
    refine join0 (fun h9 => At h0 h9 (tabL d ty s (L.set k (if kind = 5 ∧ o.state = 1 then { o with state := 2 } else if kind = 6 ∧ o.state = 1 then { o with state := 3 } else o)) ++ F)) (fun _ h9 H => ?_) ?_
    rotate_left
    · refine brB (fun hqt => ?_) fun hqf6 => ?_
      · have h6 := hq6.1 hqt
        have hn5 : ¬ (kind = 5 ∧ o.state = 1) := fun x => by omega
        rw [if_neg hn5, self rfl] at H
        repeat (first | with_reducible refine nn ?_ | with_reducible refine let_ ?_ | with_reducible refine brSome ?_ | with_reducible refine brF ?_ | with_reducible refine brT ?_ | ((with_reducible apply ldAt H 0); exact rfl; exact rfl) | ((with_reducible apply ldAt0 H 0); exact rfl; exact rfl) | ((with_reducible apply stAt H 0); exact rfl; exact rfl; intro h H) | ((with_reducible apply stAt0 H 0); exact rfl; exact rfl; intro h H) | ((with_reducible apply allocAt H); intro h b H) | ((with_reducible refine ⟨?_, ?_⟩); first | ((with_reducible apply ldAt H 0); exact rfl; exact rfl; exact rfl) | ((with_reducible apply ldAt0 H 0); exact rfl; exact rfl; exact rfl)))
        refine ixAt H 1 rfl k rfl hkk fun e1 he => ?_
        refine stEl (E := eRow) (j := 3) { o with state := 3 } H 1 rfl he hkk rfl (by rw [e]; rfl) fun h H => ?_
        rw [if_neg hn5, if_pos h6]; exact H
      · rw [if_neg (c := kind = 6 ∧ o.state = 1) fun x => by rw [hq6.2 x] at hqf6; cases hqf6]; exact H
    refine join1 (s1 := .one .bool) (fun (q : Bool) h10 => (q = true ↔ (kind = 8 ∧ o.state = 1 ∧ now > o.heard)) ∧ h10 = h9) (fun _ (q : Bool) h10 hJ => ?_) ?_
    rotate_left
    · refine br beq_iff_eq (fun h1 => ?_) fun h1 => ⟨⟨fun x => by (cases x), fun x => absurd x.1 h1⟩, rfl⟩
      refine br beq_iff_eq (fun h2 => ?_) fun h2 => ⟨⟨fun x => by (cases x), fun x => absurd x.2.1 h2⟩, rfl⟩
      have hn5 : ¬ (kind = 5 ∧ o.state = 1) := fun x => by omega
      have hn6 : ¬ (kind = 6 ∧ o.state = 1) := fun x => by omega
      rw [if_neg hn5, if_neg hn6, self rfl] at H
      repeat (first | with_reducible refine nn ?_ | with_reducible refine let_ ?_ | with_reducible refine brSome ?_ | with_reducible refine brF ?_ | with_reducible refine brT ?_ | ((with_reducible apply ldAt H 0); exact rfl; exact rfl) | ((with_reducible apply ldAt0 H 0); exact rfl; exact rfl) | ((with_reducible apply stAt H 0); exact rfl; exact rfl; intro h H) | ((with_reducible apply stAt0 H 0); exact rfl; exact rfl; intro h H) | ((with_reducible apply allocAt H); intro h b H) | ((with_reducible refine ⟨?_, ?_⟩); first | ((with_reducible apply ldAt H 0); exact rfl; exact rfl; exact rfl) | ((with_reducible apply ldAt0 H 0); exact rfl; exact rfl; exact rfl)))
      refine ixAt H 1 rfl k rfl hkk fun e1 he => ?_
      refine ldEl (j := 4) H 1 rfl he hkk o.heard (by rw [e]; rfl) ?_
      refine ⟨?_, rfl⟩
      rw [decide_eq_true_eq]
      exact ⟨fun x => ⟨h1, h2, x⟩, fun x => x.2.2⟩
    obtain ⟨hq8, rfl⟩ := hJ
    refine join0 (fun h11 => At h0 h11 (tabL d ty s (L.set k (sameM kind now o)) ++ F)) (fun _ h11 H => ?_) ?_
    rotate_left
    · refine brB (fun hqt => ?_) fun hqf8 => ?_
      · have h8 := hq8.1 hqt
        have hn5 : ¬ (kind = 5 ∧ o.state = 1) := fun x => by omega
        have hn6 : ¬ (kind = 6 ∧ o.state = 1) := fun x => by omega
        rw [if_neg hn5, if_neg hn6, self rfl] at H
        repeat (first | with_reducible refine nn ?_ | with_reducible refine let_ ?_ | with_reducible refine brSome ?_ | with_reducible refine brF ?_ | with_reducible refine brT ?_ | ((with_reducible apply ldAt H 0); exact rfl; exact rfl) | ((with_reducible apply ldAt0 H 0); exact rfl; exact rfl) | ((with_reducible apply stAt H 0); exact rfl; exact rfl; intro h H) | ((with_reducible apply stAt0 H 0); exact rfl; exact rfl; intro h H) | ((with_reducible apply allocAt H); intro h b H) | ((with_reducible refine ⟨?_, ?_⟩); first | ((with_reducible apply ldAt H 0); exact rfl; exact rfl; exact rfl) | ((with_reducible apply ldAt0 H 0); exact rfl; exact rfl; exact rfl)))
        refine ixAt H 1 rfl k rfl hkk fun e1 he => ?_
        refine stEl (E := eRow) (j := 4) { o with heard := now } H 1 rfl he hkk rfl (by rw [e]; rfl) fun h H => ?_
        have es : sameM kind now o = { o with heard := now } := by unfold sameM; rw [if_neg hn5, if_neg hn6, if_pos ⟨h8.1, h8.2.1⟩, if_pos h8.2.2]
        rw [es]; exact H
      · have hn8 : ¬ (kind = 8 ∧ o.state = 1 ∧ now > o.heard) := fun x => by rw [hq8.2 x] at hqf8; cases hqf8
        have es : sameM kind now o = (if kind = 5 ∧ o.state = 1 then { o with state := 2 } else if kind = 6 ∧ o.state = 1 then { o with state := 3 } else o) := by
          unfold sameM
          by_cases h8 : kind = 8 ∧ o.state = 1
          · have hn5 : ¬ (kind = 5 ∧ o.state = 1) := fun x => by omega
            have hn6 : ¬ (kind = 6 ∧ o.state = 1) := fun x => by omega
            rw [if_neg hn5, if_neg hn6, if_pos h8, if_neg hn5, if_neg hn6, if_neg fun x => hn8 ⟨h8.1, h8.2, x⟩]
          · rw [if_neg h8]
        rw [es]; exact H
    have hkk' : k < (L.set k (sameM kind now o)).length := by rw [List.length_set]; exact hkk
    repeat (first | with_reducible refine nn ?_ | with_reducible refine let_ ?_ | with_reducible refine brSome ?_ | with_reducible refine brF ?_ | with_reducible refine brT ?_ | ((with_reducible apply ldAt H 0); exact rfl; exact rfl) | ((with_reducible apply ldAt0 H 0); exact rfl; exact rfl) | ((with_reducible apply stAt H 0); exact rfl; exact rfl; intro h H) | ((with_reducible apply stAt0 H 0); exact rfl; exact rfl; intro h H) | ((with_reducible apply allocAt H); intro h b H) | ((with_reducible refine ⟨?_, ?_⟩); first | ((with_reducible apply ldAt H 0); exact rfl; exact rfl; exact rfl) | ((with_reducible apply ldAt0 H 0); exact rfl; exact rfl; exact rfl)))
    refine ixAt H 1 rfl k rfl hkk' fun e1 he => ?_
    refine ldEl (j := 3) H 1 rfl he hkk' (sameM kind now o).state (by rw [List.getElem_set, if_pos rfl]; rfl) ?_
    exact hR _ s _ H (by rw [List.length_set]; omega) hrel
theorem law16_want_ok {a : SAct} {R : Int → Int → Heap → Prop} (H : At h0 h (tabL d ty s L ++ F)) (hlen : L.length ≤ 90000) (ho : SOk N l) (hr : RelS l L) (hk : 0 ≤ a.kind)
    (hR : ∀ h' s' L', At h0 h' (tabL d ty s' L' ++ F) → L'.length ≤ L.length + 1 → RelS (sActM l a).1 L' → R (sActM l a).2.1 (sActM l a).2.2 h') : C_law16_want (some ⟨d, 0, none⟩) (a.kind, a.tx, a.attempt, a.stamp, a.now, ()) h R := by
  refine A_law16_want ?_
  unfold S_law16_want
  repeat (first | with_reducible refine nn ?_ | with_reducible refine let_ ?_ | with_reducible refine brSome ?_ | with_reducible refine brF ?_ | with_reducible refine brT ?_ | ((with_reducible apply ldAt H 0); exact rfl; exact rfl) | ((with_reducible apply ldAt0 H 0); exact rfl; exact rfl) | ((with_reducible apply stAt H 0); exact rfl; exact rfl; intro h H) | ((with_reducible apply stAt0 H 0); exact rfl; exact rfl; intro h H) | ((with_reducible apply allocAt H); intro h b H) | ((with_reducible refine ⟨?_, ?_⟩); first | ((with_reducible apply ldAt H 0); exact rfl; exact rfl; exact rfl) | ((with_reducible apply ldAt0 H 0); exact rfl; exact rfl; exact rfl)))
  refine nz (by decide) ?_
  rw [rem_nonneg hk]
  have H := H.mv 1 2
  have tmp : ∀ {h' : Heap} {s' : Sl} {l' : List SRow} {q : Res}, At h0 h' (tabL d ty s' l' ++ (q :: F)) → At h0 h' (tabL d ty s' l' ++ F) := fun H => (H.mv 2 1).tail
  unfold sActM at hR
  refine br beq_iff_eq (fun hc => ?_) fun hc => ?_
  · rw [if_pos hc, open_gen ho] at hR
    repeat (first | with_reducible refine nn ?_ | with_reducible refine let_ ?_ | with_reducible refine brSome ?_ | with_reducible refine brF ?_ | with_reducible refine brT ?_ | ((with_reducible apply ldAt H 0); exact rfl; exact rfl) | ((with_reducible apply ldAt0 H 0); exact rfl; exact rfl) | ((with_reducible apply ldAt H 1); exact rfl; exact rfl) | ((with_reducible apply ldAt0 H 1); exact rfl; exact rfl) | ((with_reducible apply ldAt H 2); exact rfl; exact rfl) | ((with_reducible apply ldAt0 H 2); exact rfl; exact rfl) | ((with_reducible apply stAt H 0); exact rfl; exact rfl; intro h H) | ((with_reducible apply stAt0 H 0); exact rfl; exact rfl; intro h H) | ((with_reducible apply stAt H 1); exact rfl; exact rfl; intro h H) | ((with_reducible apply stAt0 H 1); exact rfl; exact rfl; intro h H) | ((with_reducible apply stAt H 2); exact rfl; exact rfl; intro h H) | ((with_reducible apply stAt0 H 2); exact rfl; exact rfl; intro h H) | ((with_reducible apply allocAt H); intro h b H) | ((with_reducible refine ⟨?_, ?_⟩); first | ((with_reducible apply ldAt H 0); exact rfl; exact rfl; exact rfl) | ((with_reducible apply ldAt0 H 0); exact rfl; exact rfl; exact rfl) | ((with_reducible apply ldAt H 1); exact rfl; exact rfl; exact rfl) | ((with_reducible apply ldAt0 H 1); exact rfl; exact rfl; exact rfl) | ((with_reducible apply ldAt H 2); exact rfl; exact rfl; exact rfl) | ((with_reducible apply ldAt0 H 2); exact rfl; exact rfl; exact rfl)))
    exact ref16_Do_ok (F := _ :: F) H hlen ho hr (.inl rfl) (fun x => absurd rfl x) fun h' s' L' H => hR _ _ _ (tmp H)
  rw [if_neg hc] at hR
  refine br beq_iff_eq (fun hc => ?_) fun hc => ?_
  · rw [if_pos hc, decide_gen ho] at hR
    repeat (first | with_reducible refine nn ?_ | with_reducible refine let_ ?_ | with_reducible refine brSome ?_ | with_reducible refine brF ?_ | with_reducible refine brT ?_ | ((with_reducible apply ldAt H 0); exact rfl; exact rfl) | ((with_reducible apply ldAt0 H 0); exact rfl; exact rfl) | ((with_reducible apply ldAt H 1); exact rfl; exact rfl) | ((with_reducible apply ldAt0 H 1); exact rfl; exact rfl) | ((with_reducible apply ldAt H 2); exact rfl; exact rfl) | ((with_reducible apply ldAt0 H 2); exact rfl; exact rfl) | ((with_reducible apply stAt H 0); exact rfl; exact rfl; intro h H) | ((with_reducible apply stAt0 H 0); exact rfl; exact rfl; intro h H) | ((with_reducible apply stAt H 1); exact rfl; exact rfl; intro h H) | ((with_reducible apply stAt0 H 1); exact rfl; exact rfl; intro h H) | ((with_reducible apply stAt H 2); exact rfl; exact rfl; intro h H) | ((with_reducible apply stAt0 H 2); exact rfl; exact rfl; intro h H) | ((with_reducible apply allocAt H); intro h b H) | ((with_reducible refine ⟨?_, ?_⟩); first | ((with_reducible apply ldAt H 0); exact rfl; exact rfl; exact rfl) | ((with_reducible apply ldAt0 H 0); exact rfl; exact rfl; exact rfl) | ((with_reducible apply ldAt H 1); exact rfl; exact rfl; exact rfl) | ((with_reducible apply ldAt0 H 1); exact rfl; exact rfl; exact rfl) | ((with_reducible apply ldAt H 2); exact rfl; exact rfl; exact rfl) | ((with_reducible apply ldAt0 H 2); exact rfl; exact rfl; exact rfl)))
    exact ref16_Do_ok (F := _ :: F) H hlen ho hr (.inr (.inl rfl)) (fun _ => rfl) fun h' s' L' H => hR _ _ _ (tmp H)
  rw [if_neg hc] at hR
  refine br beq_iff_eq (fun hc => ?_) fun hc => ?_
  · rw [if_pos hc, kill_gen ho] at hR
    repeat (first | with_reducible refine nn ?_ | with_reducible refine let_ ?_ | with_reducible refine brSome ?_ | with_reducible refine brF ?_ | with_reducible refine brT ?_ | ((with_reducible apply ldAt H 0); exact rfl; exact rfl) | ((with_reducible apply ldAt0 H 0); exact rfl; exact rfl) | ((with_reducible apply ldAt H 1); exact rfl; exact rfl) | ((with_reducible apply ldAt0 H 1); exact rfl; exact rfl) | ((with_reducible apply ldAt H 2); exact rfl; exact rfl) | ((with_reducible apply ldAt0 H 2); exact rfl; exact rfl) | ((with_reducible apply stAt H 0); exact rfl; exact rfl; intro h H) | ((with_reducible apply stAt0 H 0); exact rfl; exact rfl; intro h H) | ((with_reducible apply stAt H 1); exact rfl; exact rfl; intro h H) | ((with_reducible apply stAt0 H 1); exact rfl; exact rfl; intro h H) | ((with_reducible apply stAt H 2); exact rfl; exact rfl; intro h H) | ((with_reducible apply stAt0 H 2); exact rfl; exact rfl; intro h H) | ((with_reducible apply allocAt H); intro h b H) | ((with_reducible refine ⟨?_, ?_⟩); first | ((with_reducible apply ldAt H 0); exact rfl; exact rfl; exact rfl) | ((with_reducible apply ldAt0 H 0); exact rfl; exact rfl; exact rfl) | ((with_reducible apply ldAt H 1); exact rfl; exact rfl; exact rfl) | ((with_reducible apply ldAt0 H 1); exact rfl; exact rfl; exact rfl) | ((with_reducible apply ldAt H 2); exact rfl; exact rfl; exact rfl) | ((with_reducible apply ldAt0 H 2); exact rfl; exact rfl; exact rfl)))
    exact ref16_Do_ok (F := _ :: F) H hlen ho hr (.inr (.inr (.inl rfl))) (fun _ => rfl) fun h' s' L' H => hR _ _ _ (tmp H)
  rw [if_neg hc, beat_gen ho] at hR
  repeat (first | with_reducible refine nn ?_ | with_reducible refine let_ ?_ | with_reducible refine brSome ?_ | with_reducible refine brF ?_ | with_reducible refine brT ?_ | ((with_reducible apply ldAt H 0); exact rfl; exact rfl) | ((with_reducible apply ldAt0 H 0); exact rfl; exact rfl) | ((with_reducible apply ldAt H 1); exact rfl; exact rfl) | ((with_reducible apply ldAt0 H 1); exact rfl; exact rfl) | ((with_reducible apply ldAt H 2); exact rfl; exact rfl) | ((with_reducible apply ldAt0 H 2); exact rfl; exact rfl) | ((with_reducible apply stAt H 0); exact rfl; exact rfl; intro h H) | ((with_reducible apply stAt0 H 0); exact rfl; exact rfl; intro h H) | ((with_reducible apply stAt H 1); exact rfl; exact rfl; intro h H) | ((with_reducible apply stAt0 H 1); exact rfl; exact rfl; intro h H) | ((with_reducible apply stAt H 2); exact rfl; exact rfl; intro h H) | ((with_reducible apply stAt0 H 2); exact rfl; exact rfl; intro h H) | ((with_reducible apply allocAt H); intro h b H) | ((with_reducible refine ⟨?_, ?_⟩); first | ((with_reducible apply ldAt H 0); exact rfl; exact rfl; exact rfl) | ((with_reducible apply ldAt0 H 0); exact rfl; exact rfl; exact rfl) | ((with_reducible apply ldAt H 1); exact rfl; exact rfl; exact rfl) | ((with_reducible apply ldAt0 H 1); exact rfl; exact rfl; exact rfl) | ((with_reducible apply ldAt H 2); exact rfl; exact rfl; exact rfl) | ((with_reducible apply ldAt0 H 2); exact rfl; exact rfl; exact rfl)))
  exact ref16_Do_ok (F := _ :: F) H hlen ho hr (.inr (.inr (.inr rfl))) (fun _ => rfl) fun h' s' L' H => hR _ _ _ (tmp H)
/-! ## All rows -/
/-- The newest ones of the first so many. -/
structure Part (l L : List SRow) (j : Nat) (out : List SRow) : Prop where
  srt : Srt out
  mem : ∀ x, x ∈ out ↔ cur l x.tx = some x ∧ ∃ k, ∃ hk : k < L.length, k < j ∧ L[k] = x
  len : out.length ≤ j
theorem Part.full (ho : SOk N l) (hr : RelS l L) {out : List SRow} (hp : Part l L L.length out) : out = l := by
  refine srt_ext hp.srt ho.srt fun x => ?_
  rw [hp.mem]
  constructor
  · rintro ⟨h1, _⟩
    exact ((cur_iff ho.srt).1 h1).1
  · intro hx
    have hc := (cur_iff ho.srt).2 ⟨hx, rfl⟩
    obtain ⟨k, hk, e, _⟩ := hr.has _ x hc
    exact ⟨hc, k, hk, hk, e⟩
theorem Part.skip (ho : SOk N l) {out : List SRow} {j : Nat} (hj : j < L.length) (hp : Part l L j out) (hn : cur l L[j].tx = some L[j] → ∃ k, ∃ hk : k < L.length, k < j ∧ L[k] = L[j]) : Part l L (j + 1) out := by
  refine ⟨hp.srt, fun x => ?_, by have := hp.len; omega⟩
  rw [hp.mem]
  constructor
  · rintro ⟨h1, k, hk, hkj, e⟩
    exact ⟨h1, k, hk, by omega, e⟩
  · rintro ⟨h1, k, hk, hkj, e⟩
    by_cases hkj2 : k < j
    · exact ⟨h1, k, hk, hkj2, e⟩
    · obtain rfl : k = j := by omega
      subst e
      obtain ⟨k', hk', h2, e2⟩ := hn h1
      exact ⟨h1, k', hk', h2, e2⟩
theorem Part.ins (ho : SOk N l) (hr : RelS l L) {out : List SRow} {j : Nat} (hj : j < L.length) (hp : Part l L j out) (hc : cur l L[j].tx = some L[j]) (hmax : ∀ i, (hi : i < L.length) → L[i].tx = L[j].tx → i ≠ j → L[i].attempt < L[j].attempt) : Part l L (j + 1) (insR out L[j]) := by
  have hno : cur out L[j].tx = none := by
    cases h1 : cur out L[j].tx with
    | none => rfl
    | some x =>
      obtain ⟨h2, h3⟩ := (cur_iff hp.srt).1 h1
      obtain ⟨h4, k, hk, hkj, e⟩ := (hp.mem x).1 h2
      rw [h3, hc] at h4
      injection h4 with h4
      subst h4
      have := hmax k hk (by rw [e]) (by omega)
      rw [e] at this
      omega
  refine ⟨ins_srt hp.srt hno, fun x => ?_, ?_⟩
  · rw [mem_ins, hp.mem]
    constructor
    · rintro (rfl | ⟨h1, k, hk, hkj, e⟩)
      · exact ⟨hc, j, hj, by omega, rfl⟩
      · exact ⟨h1, k, hk, by omega, e⟩
    · rintro ⟨h1, k, hk, hkj, e⟩
      by_cases hkj2 : k < j
      · exact .inr ⟨h1, k, hk, hkj2, e⟩
      · obtain rfl : k = j := by omega
        exact .inl e.symm
  · unfold insR
    have h1 := (lo_cut hp.srt L[j].tx).le
    have h2 := hp.len
    rw [List.length_append, List.length_take, List.length_cons, List.length_drop]; omega
set_option maxHeartbeats 3200000 in
theorem ref16_Rows_ok {R : Sl → Heap → Prop} (H : At h0 h (tabL d ty s L ++ F)) (hlen : L.length ≤ 90000) (ho : SOk N l) (hr : RelS l L) (hR : ∀ r h', At h0 h' (.own r 5 (eRow.fl l) :: (tabL d ty s L ++ F)) → R r h') : C_ref16_All_Rows (some ⟨d, 0, none⟩) h R := by
  refine A_ref16_All_Rows ?_
  unfold S_ref16_All_Rows
  have hsn := H.n 1 rfl
  repeat (first | with_reducible refine nn ?_ | with_reducible refine let_ ?_ | with_reducible refine brSome ?_ | with_reducible refine brF ?_ | with_reducible refine brT ?_ | ((with_reducible apply ldAt H 0); exact rfl; exact rfl) | ((with_reducible apply ldAt0 H 0); exact rfl; exact rfl) | ((with_reducible apply stAt H 0); exact rfl; exact rfl; intro h H) | ((with_reducible apply stAt0 H 0); exact rfl; exact rfl; intro h H) | ((with_reducible apply allocAt H); intro h b H) | ((with_reducible refine ⟨?_, ?_⟩); first | ((with_reducible apply ldAt H 0); exact rfl; exact rfl; exact rfl) | ((with_reducible apply ldAt0 H 0); exact rfl; exact rfl; exact rfl)))
  refine loop2 (s1 := .one .sl) (s2 := .one (.int .i64)) (fun (out : Sl) (y : Int) h1 => ∃ (j : Nat) (ol : List SRow), y = j ∧ j ≤ L.length ∧ Part l L j ol ∧ At h0 h1 (.own out 5 (eRow.fl ol) :: (tabL d ty s L ++ F))) (fun _ (y : Int) _ => (L.length - y).toNat)
    ⟨0, [], rfl, Nat.zero_le _, ⟨List.Pairwise.nil, fun x => ⟨fun y => by (cases y), fun ⟨_, k, _, hk, _⟩ => absurd hk (Nat.not_lt_zero _)⟩, Nat.le_refl _⟩, H.nil 5⟩ fun _ (out : Sl) (y : Int) h1 hI => ?_
  obtain ⟨j, ol, rfl, hj, hp, H⟩ := hI
  refine brD (fun hc => ?_) fun hc => ?_
  · have hj2 : j < L.length := by omega
    refine ixAt H 2 rfl j rfl hj2 fun e he => ?_
    repeat (first | with_reducible refine nn ?_ | with_reducible refine let_ ?_ | with_reducible refine brSome ?_ | with_reducible refine brF ?_ | with_reducible refine brT ?_ | ((with_reducible apply ldAt H 0); exact rfl; exact rfl) | ((with_reducible apply ldAt0 H 0); exact rfl; exact rfl) | ((with_reducible apply ldAt H 1); exact rfl; exact rfl) | ((with_reducible apply ldAt0 H 1); exact rfl; exact rfl) | ((with_reducible apply ldAt H 2); exact rfl; exact rfl) | ((with_reducible apply ldAt0 H 2); exact rfl; exact rfl) | ((with_reducible apply ldEl H 0); exact rfl; assumption; (case hk => assumption); exact rfl) | ((with_reducible apply ldEl0 H 0); exact rfl; assumption; (case hk => assumption); exact rfl) | ((with_reducible apply ldElS H 0); exact rfl; assumption; (case hk => assumption); exact rfl) | ((with_reducible apply ldElS0 H 0); exact rfl; assumption; (case hk => assumption); exact rfl) | ((with_reducible apply ldEl H 1); exact rfl; assumption; (case hk => assumption); exact rfl) | ((with_reducible apply ldEl0 H 1); exact rfl; assumption; (case hk => assumption); exact rfl) | ((with_reducible apply ldElS H 1); exact rfl; assumption; (case hk => assumption); exact rfl) | ((with_reducible apply ldElS0 H 1); exact rfl; assumption; (case hk => assumption); exact rfl) | ((with_reducible apply ldEl H 2); exact rfl; assumption; (case hk => assumption); exact rfl) | ((with_reducible apply ldEl0 H 2); exact rfl; assumption; (case hk => assumption); exact rfl) | ((with_reducible apply ldElS H 2); exact rfl; assumption; (case hk => assumption); exact rfl) | ((with_reducible apply ldElS0 H 2); exact rfl; assumption; (case hk => assumption); exact rfl) | ((with_reducible apply stAt H 0); exact rfl; exact rfl; intro h H) | ((with_reducible apply stAt0 H 0); exact rfl; exact rfl; intro h H) | ((with_reducible apply stAt H 1); exact rfl; exact rfl; intro h H) | ((with_reducible apply stAt0 H 1); exact rfl; exact rfl; intro h H) | ((with_reducible apply stAt H 2); exact rfl; exact rfl; intro h H) | ((with_reducible apply stAt0 H 2); exact rfl; exact rfl; intro h H) | ((with_reducible apply stElS (E := eRow) ⟨_, _, _, _, _⟩ H 0); exact rfl; assumption; (case hk => assumption); exact rfl; (first | exact rfl | (dsimp only [eRow, List.set_cons_succ, List.set_cons_zero] <;> exact rfl)); intro h H) | ((with_reducible apply stElS0 (E := eRow) ⟨_, _, _, _, _⟩ H 0); exact rfl; assumption; (case hk => assumption); (first | exact rfl | (dsimp only [eRow, List.set_cons_succ, List.set_cons_zero] <;> exact rfl)); intro h H) | ((with_reducible apply stEl (E := eRow) ⟨_, _, _, _, _⟩ H 0); exact rfl; assumption; (case hk => assumption); exact rfl; (first | exact rfl | (dsimp only [eRow, List.set_cons_succ, List.set_cons_zero] <;> exact rfl)); intro h H) | ((with_reducible apply stEl0 (E := eRow) ⟨_, _, _, _, _⟩ H 0); exact rfl; assumption; (case hk => assumption); (first | exact rfl | (dsimp only [eRow, List.set_cons_succ, List.set_cons_zero] <;> exact rfl)); intro h H) | ((with_reducible apply stElS (E := eRow) ⟨_, _, _, _, _⟩ H 1); exact rfl; assumption; (case hk => assumption); exact rfl; (first | exact rfl | (dsimp only [eRow, List.set_cons_succ, List.set_cons_zero] <;> exact rfl)); intro h H) | ((with_reducible apply stElS0 (E := eRow) ⟨_, _, _, _, _⟩ H 1); exact rfl; assumption; (case hk => assumption); (first | exact rfl | (dsimp only [eRow, List.set_cons_succ, List.set_cons_zero] <;> exact rfl)); intro h H) | ((with_reducible apply stEl (E := eRow) ⟨_, _, _, _, _⟩ H 1); exact rfl; assumption; (case hk => assumption); exact rfl; (first | exact rfl | (dsimp only [eRow, List.set_cons_succ, List.set_cons_zero] <;> exact rfl)); intro h H) | ((with_reducible apply stEl0 (E := eRow) ⟨_, _, _, _, _⟩ H 1); exact rfl; assumption; (case hk => assumption); (first | exact rfl | (dsimp only [eRow, List.set_cons_succ, List.set_cons_zero] <;> exact rfl)); intro h H) | ((with_reducible apply stElS (E := eRow) ⟨_, _, _, _, _⟩ H 2); exact rfl; assumption; (case hk => assumption); exact rfl; (first | exact rfl | (dsimp only [eRow, List.set_cons_succ, List.set_cons_zero] <;> exact rfl)); intro h H) | ((with_reducible apply stElS0 (E := eRow) ⟨_, _, _, _, _⟩ H 2); exact rfl; assumption; (case hk => assumption); (first | exact rfl | (dsimp only [eRow, List.set_cons_succ, List.set_cons_zero] <;> exact rfl)); intro h H) | ((with_reducible apply stEl (E := eRow) ⟨_, _, _, _, _⟩ H 2); exact rfl; assumption; (case hk => assumption); exact rfl; (first | exact rfl | (dsimp only [eRow, List.set_cons_succ, List.set_cons_zero] <;> exact rfl)); intro h H) | ((with_reducible apply stEl0 (E := eRow) ⟨_, _, _, _, _⟩ H 2); exact rfl; assumption; (case hk => assumption); (first | exact rfl | (dsimp only [eRow, List.set_cons_succ, List.set_cons_zero] <;> exact rfl)); intro h H) | ((with_reducible apply allocAt H); intro h b H) | ((with_reducible refine ⟨?_, ?_⟩); first | ((with_reducible apply ldAt H 0); exact rfl; exact rfl; exact rfl) | ((with_reducible apply ldAt0 H 0); exact rfl; exact rfl; exact rfl) | ((with_reducible apply ldAt H 1); exact rfl; exact rfl; exact rfl) | ((with_reducible apply ldAt0 H 1); exact rfl; exact rfl; exact rfl) | ((with_reducible apply ldAt H 2); exact rfl; exact rfl; exact rfl) | ((with_reducible apply ldAt0 H 2); exact rfl; exact rfl; exact rfl) | ((with_reducible apply ldEl H 0); exact rfl; assumption; (case hk => assumption); exact rfl; exact rfl) | ((with_reducible apply ldEl0 H 0); exact rfl; assumption; (case hk => assumption); exact rfl; exact rfl) | ((with_reducible apply ldElS H 0); exact rfl; assumption; (case hk => assumption); exact rfl; exact rfl) | ((with_reducible apply ldElS0 H 0); exact rfl; assumption; (case hk => assumption); exact rfl; exact rfl) | ((with_reducible apply ldEl H 1); exact rfl; assumption; (case hk => assumption); exact rfl; exact rfl) | ((with_reducible apply ldEl0 H 1); exact rfl; assumption; (case hk => assumption); exact rfl; exact rfl) | ((with_reducible apply ldElS H 1); exact rfl; assumption; (case hk => assumption); exact rfl; exact rfl) | ((with_reducible apply ldElS0 H 1); exact rfl; assumption; (case hk => assumption); exact rfl; exact rfl) | ((with_reducible apply ldEl H 2); exact rfl; assumption; (case hk => assumption); exact rfl; exact rfl) | ((with_reducible apply ldEl0 H 2); exact rfl; assumption; (case hk => assumption); exact rfl; exact rfl) | ((with_reducible apply ldElS H 2); exact rfl; assumption; (case hk => assumption); exact rfl; exact rfl) | ((with_reducible apply ldElS0 H 2); exact rfl; assumption; (case hk => assumption); exact rfl; exact rfl)))
    refine ref16_newest_ok (F := _ :: _ :: F) (H.mv 2 2) (by omega) fun b2 h2 hB H => ?_
    -- [table, r's block, out]
    have hol : out.n = ol.length := H.n 3 rfl
    have hoc := (H.own 3 rfl).2.1
    have hpl := hp.len
    have fin : ∀ {h' : Heap} {out' : Sl} {ol' : List SRow}, Part l L (j + 1) ol' → At h0 h' (.own out' 5 (eRow.fl ol') :: (tabL d ty s L ++ F)) → (∃ (j_1 : Nat) (ol : List SRow), IntKind.i64.wrap ((j : Int) + 1) = j_1 ∧ j_1 ≤ L.length ∧ Part l L j_1 ol ∧ At h0 h' (.own out' 5 (eRow.fl ol) :: (tabL d ty s L ++ F))) ∧ ((L.length : Int) - IntKind.i64.wrap ((j : Int) + 1)).toNat < ((L.length : Int) - (j : Int)).toNat := fun hp' H => by
      rw [w64 (by omega) (by omega)]
      exact ⟨⟨j + 1, _, by omega, by omega, hp', H⟩, by omega⟩
    have hcur : ∃ o, cur l L[j].tx = some o := by
      cases hc : cur l L[j].tx with
      | none => exact absurd rfl (hr.no _ hc _ (List.getElem_mem hj2))
      | some o => exact ⟨o, rfl⟩
    obtain ⟨o, hco⟩ := hcur
    obtain ⟨k, hkk, rfl, ek, hmax⟩ := hr.bestS ho hco hB
    refine br bne_iff_ne (fun hne => ?_) fun heq => ?_
    · refine fin (hp.skip ho hj2 fun hcj => ?_) ((H.mv 3 1).del 3)
      rw [hco] at hcj
      injection hcj with hcj
      have := hmax j hj2 rfl (by omega)
      rw [hcj] at this
      omega
    · have hkj : k = j := by omega
      subst hkj
      rw [← ek] at hco hmax
      have hins := hp.ins ho hr hj2 hco hmax
      have hcut := lo_cut hp.srt L[k].tx
      refine join1 (s1 := .one (.int .i64)) (fun (a : Int) h3 => a = (lo ol L[k].tx : Nat) ∧ h3 = h2) (fun _ (a : Int) h3 hJ => ?_) ?_
      rotate_left
      · refine loop1 (s1 := .one (.int .i64)) (fun (a : Int) h3 => ∃ i : Nat, a = i ∧ i ≤ ol.length ∧ h3 = h2 ∧ ∀ m, (hm : m < ol.length) → m < i → ol[m].tx < L[k].tx) (fun (a : Int) _ => (ol.length - a).toNat)
          ⟨0, rfl, Nat.zero_le _, rfl, fun m _ hm => absurd hm (Nat.not_lt_zero _)⟩ fun _ (a : Int) h3 hI => ?_
        obtain ⟨i, rfl, hi, rfl, hlo⟩ := hI
        have fin2 : (∀ m, (hm : m < ol.length) → i ≤ m → L[k].tx ≤ ol[m].tx) → ((i : Int) = (lo ol L[k].tx : Nat) ∧ h3 = h3) := fun hhi => by
          have := (Cutp.uniq ⟨hi, hlo, hhi⟩ hcut)
          exact ⟨by omega, rfl⟩
        refine brD (fun hc2 => ?_) fun hc2 => fin2 fun m hm him => by omega
        have hi2 : i < ol.length := by omega
        refine ixAt H 3 rfl i rfl hi2 fun e he => ?_
        refine ldEl0 (E := eRow) (l := ol) H 3 rfl he hi2 ol[i].tx rfl ?_
        repeat (first | with_reducible refine nn ?_ | with_reducible refine let_ ?_ | with_reducible refine brSome ?_ | with_reducible refine brF ?_ | with_reducible refine brT ?_ | ((with_reducible apply ldAt H 2); exact rfl; exact rfl) | ((with_reducible apply ldAt0 H 2); exact rfl; exact rfl) | ((with_reducible apply stAt H 2); exact rfl; exact rfl; intro h H) | ((with_reducible apply stAt0 H 2); exact rfl; exact rfl; intro h H) | ((with_reducible apply allocAt H); intro h b H) | ((with_reducible refine ⟨?_, ?_⟩); first | ((with_reducible apply ldAt H 2); exact rfl; exact rfl; exact rfl) | ((with_reducible apply ldAt0 H 2); exact rfl; exact rfl; exact rfl)))
        refine brD (fun hlt => let_ ?_) fun hge => fin2 fun m hm him => ?_
        · rw [w64 (by omega) (by omega)]
          refine ⟨⟨i + 1, by omega, by omega, rfl, fun m hm hmi => ?_⟩, by omega⟩
          by_cases e : m < i
          · exact hlo m hm e
          · obtain rfl : m = i := by omega
            exact hlt
        · by_cases e : m = i
          · subst e; omega
          · have := srt_lt hp.srt (show i < m by omega) hm
            omega
      obtain ⟨rfl, rfl⟩ := hJ
      have hle := hcut.le
      refine cut_raw TRo 0 (lo ol L[k].tx) out.c lo0 (hii rfl) (.inl ⟨rfl, rfl⟩) (Nat.zero_le _) (by omega) (Nat.le_refl _) ?_
      repeat (first | with_reducible refine nn ?_ | with_reducible refine let_ ?_ | with_reducible refine brSome ?_ | with_reducible refine brF ?_ | with_reducible refine brT ?_ | ((with_reducible apply ldAt H 2); exact rfl; exact rfl) | ((with_reducible apply ldAt0 H 2); exact rfl; exact rfl) | ((with_reducible apply stAt H 2); exact rfl; exact rfl; intro h H) | ((with_reducible apply stAt0 H 2); exact rfl; exact rfl; intro h H) | ((with_reducible apply allocAt H); intro h b H) | ((with_reducible refine ⟨?_, ?_⟩); first | ((with_reducible apply ldAt H 2); exact rfl; exact rfl; exact rfl) | ((with_reducible apply ldAt0 H 2); exact rfl; exact rfl; exact rfl)))
      refine cut_raw TRo (lo ol L[k].tx) out.n out.c (loi rfl) (hi0 _) (.inl ⟨rfl, rfl⟩) (by omega) hoc (Nat.le_refl _) ?_
      -- what the two parts read, wherever 'out' stands
      have rdA : ∀ {h' : Heap} {M : List Res} (i : Nat), At h0 h' M → M[i]? = some (.own out 5 (eRow.fl ol)) → RdS h' 5 (cutSl out 5 0 (lo ol L[k].tx) out.c) (eRow.fl (ol.take (lo ol L[k].tx))) := fun i H hi => by
        have := rd_cut TRo (H.rdo i hi) 0 (lo ol L[k].tx) out.c (Nat.zero_le _) (by omega) (by omega)
        rwa [Nat.zero_mul, List.drop_zero, Nat.sub_zero, eRow.fl_take] at this
      have rdB : ∀ {h' : Heap} {M : List Res} (i : Nat), At h0 h' M → M[i]? = some (.own out 5 (eRow.fl ol)) → RdS h' 5 (cutSl out 5 (lo ol L[k].tx) out.n out.c) (eRow.fl (ol.drop (lo ol L[k].tx))) := fun i H hi => by
        have := rd_cut TRo (H.rdo i hi) (lo ol L[k].tx) out.n out.c (by omega) (Nat.le_refl _) hoc
        rwa [eRow.fl_drop, eRow.fl_take, List.take_of_length_le (by rw [List.length_drop]; omega)] at this
      have hl1 : (ol.take (lo ol L[k].tx)).length ≤ 90000 := by rw [List.length_take]; omega
      have hl2 : (ol.drop (lo ol L[k].tx)).length ≤ 90000 := by rw [List.length_drop]; omega
      have e1 : ([] : List SRow) ++ ol.take (lo ol L[k].tx) = ol.take (lo ol L[k].tx) := rfl
      have e2 : ol.take (lo ol L[k].tx) ++ [L[k]] ++ ol.drop (lo ol L[k].tx) = insR ol L[k] := by unfold insR; rw [List.append_assoc]; rfl
      have nil_ : ∀ {h' : Heap} {M : List Res} {c : Nat} {tc : TypeId}, At h0 h' (.blk c tc [] :: M) → At h0 h' (.own ⟨some ⟨c, 0, none⟩, 0, 0⟩ 5 (eRow.fl []) :: M) := fun {h' M c tc} H => H.as_ 0 rfl (.own ⟨some ⟨c, 0, none⟩, 0, 0⟩ 5 (eRow.fl [])) (Own.full (H.get 0 rfl : Blk h' c _ []) (sz := 5) (n := 0) rfl (by decide)) (fun g hg => by have hg : some c = some g := hg; injection hg with hg; exact hg.symm)
      refine ⟨?_, ?_⟩
      · refine allocAt (cs := []) H fun h4 c H => ?_
        refine ⟨ldAt0 H 3 rfl _ rfl (ldAt H 3 rfl _ rfl (ldAt H 3 rfl _ rfl (ldAt H 3 rfl _ rfl (ldAt H 3 rfl _ rfl rfl)))), ?_⟩
        refine ⟨?_, ?_⟩
        · have H := nil_ H
          refine appAt (ys := ol.take (lo ol L[k].tx)) TRo H 0 rfl (rdA 4 H rfl) (by simp; omega) (by simp; omega) fun s2 h5 H => ?_
          rw [e1] at H
          refine ⟨ldAt0 H 3 rfl _ rfl (ldAt H 3 rfl _ rfl (ldAt H 3 rfl _ rfl (ldAt H 3 rfl _ rfl (ldAt H 3 rfl _ rfl rfl)))), ?_⟩
          refine allocAt (cs := eRow.cells L[k]) H fun h6 c2 H => ?_
          refine app1B TRo H 1 rfl 0 rfl L[k] rfl (by omega) (by omega) fun s3 h7 H => ?_
          refine appAt (ys := ol.drop (lo ol L[k].tx)) TRo H 1 rfl (rdB 5 H rfl) (by simp; omega) (by simp; omega) fun s4 h8 H => ?_
          rw [e2] at H
          exact fin hins (((H.tail).del 4).del 3)
        · refine allocAt (cs := eRow.cells L[k]) H fun h6 c2 H => ?_
          have H := nil_ (H.mv 1 1)
          refine appAt (ys := ol.take (lo ol L[k].tx)) TRo H 0 rfl (rdA 5 H rfl) (by simp; omega) (by simp; omega) fun s2 h5 H => ?_
          rw [e1] at H
          refine ⟨ldAt0 H 4 rfl _ rfl (ldAt H 4 rfl _ rfl (ldAt H 4 rfl _ rfl (ldAt H 4 rfl _ rfl (ldAt H 4 rfl _ rfl rfl)))), ?_⟩
          refine app1B TRo H 0 rfl 1 rfl L[k] rfl (by omega) (by omega) fun s3 h7 H => ?_
          refine appAt (ys := ol.drop (lo ol L[k].tx)) TRo H 0 rfl (rdB 5 H rfl) (by simp; omega) (by simp; omega) fun s4 h8 H => ?_
          rw [e2] at H
          exact fin hins (((H.del 5).del 4).del 1)
      · refine allocAt (cs := eRow.cells L[k]) H fun h6 c2 H => ?_
        refine allocAt (cs := []) H fun h4 c H => ?_
        refine ⟨ldAt0 H 4 rfl _ rfl (ldAt H 4 rfl _ rfl (ldAt H 4 rfl _ rfl (ldAt H 4 rfl _ rfl (ldAt H 4 rfl _ rfl rfl)))), ?_⟩
        have H := nil_ H
        refine appAt (ys := ol.take (lo ol L[k].tx)) TRo H 0 rfl (rdA 5 H rfl) (by simp; omega) (by simp; omega) fun s2 h5 H => ?_
        rw [e1] at H
        refine ⟨ldAt0 H 4 rfl _ rfl (ldAt H 4 rfl _ rfl (ldAt H 4 rfl _ rfl (ldAt H 4 rfl _ rfl (ldAt H 4 rfl _ rfl rfl)))), ?_⟩
        refine app1B TRo H 0 rfl 1 rfl L[k] rfl (by omega) (by omega) fun s3 h7 H => ?_
        refine appAt (ys := ol.drop (lo ol L[k].tx)) TRo H 0 rfl (rdB 5 H rfl) (by simp; omega) (by simp; omega) fun s4 h8 H => ?_
        rw [e2] at H
        exact fin hins (((H.del 5).del 4).del 1)
  · have hjl : j = L.length := by omega
    subst hjl
    rw [hp.full ho hr] at H
    exact hR _ _ H
end
/-! ## StatusPlays -/
def rowO : Option SRow → SRow
  | some o => o
  | none => ⟨0, 0, 0, 0, 0⟩
theorem status_Row1_ok {h0 h : Heap} {F : List Res} {d : Nat} {ty : TypeId} {s : Sl} {l : List SRow} {N : Nat} {tx : Int} {R : KL [.int .i64, .int .i64, .int .i64, .int .i64, .int .i64] → Bool → Heap → Prop} (H : At h0 h (tabL d ty s l ++ F)) (ho : SOk N l) (hN : N ≤ 100000)
    (hg : ∀ h', At h0 h' (tabL d ty s l ++ F) → R ((rowO (cur l tx)).tx, (rowO (cur l tx)).attempt, (rowO (cur l tx)).stamp, (rowO (cur l tx)).state, (rowO (cur l tx)).heard, ()) (cur l tx).isSome h') : C_status_Table_Row (some ⟨d, 0, none⟩) tx h R := by
  refine status_Row_ok H ho hN (fun hc h' H => ?_) fun o h' hc H => ?_
  · have := hg h' H; rw [hc] at this; exact this
  · have := hg h' H; rw [hc] at this; exact this
set_option maxHeartbeats 3200000 in
theorem law16_StatusPlays_ok {l : Sl} {hB : Heap} {acts : List SAct} (w0 : ArgAct6 hB l acts) : C_law16_StatusPlays l hB fun r h' => r = true ∧ Ext hB.size hB h' := by
  refine A_law16_StatusPlays ?_
  unfold S_law16_StatusPlays
  obtain ⟨A, hk⟩ := w0
  have hn := rdn A
  refine law16_fixed_ok fun h1 e1 => brN rfl (brD (fun _ => ⟨rfl, e1⟩) fun hc => ?_)
  refine status_New_ok (At.of_ext e1) fun h2 d ty H => ?_
  refine allocAt (H.nil 5) fun h3 d2 H => ?_
  refine loop1 (s1 := .one (.int .i64)) (fun (x : Int) h5 => ∃ (j : Nat) (s s2 : Sl) (t L : List SRow) (ty2 : TypeId), x = j ∧ j ≤ acts.length ∧ At hB h5 (tabL d2 ty2 s2 L ++ (tabL d ty s t ++ [])) ∧ SOk j t ∧ RelS t L ∧ L.length ≤ j) (fun (x : Int) _ => (acts.length - x).toNat)
    ⟨0, _, ⟨none, 0, 0⟩, [], [], _, rfl, Nat.zero_le _, H, new_sok, ⟨(fun _ _ r hr => by cases hr), (fun x o ho => by cases ho), (fun x o ho => by cases ho)⟩, Nat.le_refl _⟩ fun _ (x : Int) h5 hI => ?_
  obtain ⟨j, s, s2, t, L, ty2, rfl, hj, H, ho, hr, hL⟩ := hI
  refine brD (fun hc2 => ?_) fun hc2 => ⟨rfl, H.ext⟩
  have hj2 : j < acts.length := by omega
  obtain ⟨hkd, htx, hat, _⟩ := hk _ (List.getElem_mem hj2)
  refine ixR (H.arg A) j rfl hj2 fun e he => ?_
  repeat (first | with_reducible refine nn ?_ | with_reducible refine let_ ?_ | with_reducible refine brSome ?_ | with_reducible refine brF ?_ | with_reducible refine brT ?_ | ((with_reducible apply ldAt H 0); exact rfl; exact rfl) | ((with_reducible apply ldAt0 H 0); exact rfl; exact rfl) | ((with_reducible apply ldR (H.arg A)); assumption; (case hk => assumption); exact rfl) | ((with_reducible apply ldR0 (H.arg A)); assumption; (case hk => assumption); exact rfl) | ((with_reducible apply stAt H 0); exact rfl; exact rfl; intro h H) | ((with_reducible apply stAt0 H 0); exact rfl; exact rfl; intro h H) | ((with_reducible apply allocAt H); intro h b H) | ((with_reducible refine ⟨?_, ?_⟩); first | ((with_reducible apply ldAt H 0); exact rfl; exact rfl; exact rfl) | ((with_reducible apply ldAt0 H 0); exact rfl; exact rfl; exact rfl)))
  refine law16_do_ok (a := acts[j]) (F := _ :: _) (H.mv 3 2) ho (by omega) hkd.1 fun h6 s H => ?_
  -- [program's table, act's block, document's]
  refine ldAt0 H 2 rfl acts[j].kind rfl (ldAt (j := 1) H 2 rfl acts[j].tx rfl (ldAt (j := 2) H 2 rfl acts[j].attempt rfl (ldAt (j := 3) H 2 rfl acts[j].stamp rfl (ldAt (j := 4) H 2 rfl acts[j].now rfl ?_))))
  refine law16_want_ok (a := acts[j]) (l := t) (F := tabL d ty s _ ++ _) (H.mv 3 2) (by omega) ho hr hkd.1 fun h7 s2 L' H hL' hr' => ?_
  have ho' := ho.act acts[j]
  generalize hres : sActM t acts[j] = res at *
  have hln := ho'.len
  -- [document's, program's, act's block]
  refine join1 (s1 := .one .bool) (fun (q : Bool) h8 => q = false ∧ At hB h8 (tabL d2 ty2 s2 L' ++ (tabL d ty s res.1 ++ [.blk b 74 (eSAct.cells acts[j])]))) (fun _ (q : Bool) h8 hJ => ?_) ?_
  rotate_left
  · refine brN (by simp) (brN (by simp) ?_)
    refine ldAt (j := 1) H 4 rfl acts[j].tx rfl (ldAt (j := 2) H 4 rfl acts[j].attempt rfl (ldAt (j := 1) H 4 rfl acts[j].tx rfl (ldAt (j := 2) H 4 rfl acts[j].attempt rfl ?_)))
    refine status_State_ok (F := tabL d2 ty2 s2 L' ++ _) (H.mv 2 2) ho' (by omega) fun h9 H => ?_
    refine ⟨ldAt (j := 1) H 4 rfl acts[j].tx rfl rfl, ldAt (j := 2) H 4 rfl acts[j].attempt rfl rfl, ?_⟩
    refine ref16_State_ok (l := res.1) (F := tabL d ty s _ ++ _) (H.mv 2 2) (by omega) ho' hr' fun h10 H => ?_
    refine brN (by simp) ?_
    refine status_Rows_ok (F := tabL d2 ty2 s2 L' ++ _) (H.mv 2 2) (by omega) fun ra h11 H => ?_
    refine ref16_Rows_ok (l := res.1) (F := _ :: _) (H.mv 3 2) (by omega) ho' hr' fun rb h12 H => ?_
    refine law16_same_ok (H.rdo 3 rfl) (H.rdo 0 rfl) (by omega) fun q hq => ?_
    rw [hq.2 rfl]
    refine ⟨rfl, ?_⟩
    exact ((H.tail).del 2).keep 5
  obtain ⟨rfl, H⟩ := hJ
  refine brF ?_
  refine ldAt (j := 1) H 4 rfl acts[j].tx rfl ?_
  refine status_Row1_ok (F := tabL d2 ty2 s2 L' ++ _) (H.mv 2 2) ho' (by omega) fun h9 H => ?_
  have hcu := fun o => cur_iff ho'.srt (x := acts[j].tx) (o := o)
  generalize cur res.1 acts[j].tx = oc at hcu ⊢
  -- [d, s, d2, s2, act]
  refine allocAt H fun h b1 H => ?_
  repeat (first | with_reducible refine nn ?_ | with_reducible refine let_ ?_ | with_reducible refine brSome ?_ | with_reducible refine brF ?_ | with_reducible refine brT ?_ | ((with_reducible apply ldAt H 0); exact rfl; exact rfl) | ((with_reducible apply ldAt0 H 0); exact rfl; exact rfl) | ((with_reducible apply stAt H 0); exact rfl; exact rfl; intro h H) | ((with_reducible apply stAt0 H 0); exact rfl; exact rfl; intro h H) | ((with_reducible refine ⟨?_, ?_⟩); first | ((with_reducible apply ldAt H 0); exact rfl; exact rfl; exact rfl) | ((with_reducible apply ldAt0 H 0); exact rfl; exact rfl; exact rfl)))
  refine allocAt H fun h b2 H => ?_
  repeat (first | with_reducible refine nn ?_ | with_reducible refine let_ ?_ | with_reducible refine brSome ?_ | with_reducible refine brF ?_ | with_reducible refine brT ?_ | ((with_reducible apply ldAt H 0); exact rfl; exact rfl) | ((with_reducible apply ldAt0 H 0); exact rfl; exact rfl) | ((with_reducible apply stAt H 0); exact rfl; exact rfl; intro h H) | ((with_reducible apply stAt0 H 0); exact rfl; exact rfl; intro h H) | ((with_reducible refine ⟨?_, ?_⟩); first | ((with_reducible apply ldAt H 0); exact rfl; exact rfl; exact rfl) | ((with_reducible apply ldAt0 H 0); exact rfl; exact rfl; exact rfl)))
  -- [is, row, d, s, d2, s2, act]
  have H : At hB _ (.blk b2 81 (eRow.cells ⟨0, 0, 0, 0, 0⟩) :: .blk b1 81 (eRow.cells (rowO oc)) :: (tabL d ty s res.1 ++ (tabL d2 ty2 s2 L' ++ [.blk b 74 (eSAct.cells acts[j])]))) := H
  refine ref16_Rows_ok (l := res.1) (F := _) (H.mv 4 2) (by omega) ho' hr' fun rb h12 H => ?_
  have hrb := H.n 0 rfl
  -- [rb, d2, s2, is, row, d, s, act]
  refine loop2 (s1 := .one .bool) (s2 := .one (.int .i64)) (fun (sm : Bool) (y : Int) h => ∃ (i : Nat) (q : SRow), y = i ∧ i ≤ res.1.length ∧ (if sm then oc = some q else q = ⟨0, 0, 0, 0, 0⟩ ∧ ∀ m, (hm : m < res.1.length) → m < i → res.1[m].tx ≠ acts[j].tx) ∧
      At hB h (.own rb 5 (eRow.fl res.1) :: (tabL d2 ty2 s2 L' ++ (.blk b2 81 (eRow.cells q) :: .blk b1 81 (eRow.cells (rowO oc)) :: (tabL d ty s res.1 ++ [.blk b 74 (eSAct.cells acts[j])]))))) (fun _ (y : Int) _ => (res.1.length - y).toNat)
    ⟨0, _, rfl, Nat.zero_le _, ⟨rfl, fun m _ hm => absurd hm (Nat.not_lt_zero _)⟩, H⟩ fun _ (sm : Bool) (y : Int) h hI => ?_
  obtain ⟨i, q, rfl, hi, hsm, H⟩ := hI
  refine brD (fun hc3 => ?_) fun hc3 => ?_
  · have hi2 : i < res.1.length := by omega
    refine ixAt H 0 rfl i rfl hi2 fun e he => ?_
    repeat (first | with_reducible refine nn ?_ | with_reducible refine let_ ?_ | with_reducible refine brSome ?_ | with_reducible refine brF ?_ | with_reducible refine brT ?_ | ((with_reducible apply ldAt H 0); exact rfl; exact rfl) | ((with_reducible apply ldAt0 H 0); exact rfl; exact rfl) | ((with_reducible apply ldEl H 0); exact rfl; assumption; (case hk => assumption); exact rfl) | ((with_reducible apply ldEl0 H 0); exact rfl; assumption; (case hk => assumption); exact rfl) | ((with_reducible apply ldElS H 0); exact rfl; assumption; (case hk => assumption); exact rfl) | ((with_reducible apply ldElS0 H 0); exact rfl; assumption; (case hk => assumption); exact rfl) | ((with_reducible apply stAt H 0); exact rfl; exact rfl; intro h H) | ((with_reducible apply stAt0 H 0); exact rfl; exact rfl; intro h H) | ((with_reducible apply stElS (E := eRow) ⟨_, _, _, _, _⟩ H 0); exact rfl; assumption; (case hk => assumption); exact rfl; (first | exact rfl | (dsimp only [eRow, List.set_cons_succ, List.set_cons_zero] <;> exact rfl)); intro h H) | ((with_reducible apply stElS0 (E := eRow) ⟨_, _, _, _, _⟩ H 0); exact rfl; assumption; (case hk => assumption); (first | exact rfl | (dsimp only [eRow, List.set_cons_succ, List.set_cons_zero] <;> exact rfl)); intro h H) | ((with_reducible apply stEl (E := eRow) ⟨_, _, _, _, _⟩ H 0); exact rfl; assumption; (case hk => assumption); exact rfl; (first | exact rfl | (dsimp only [eRow, List.set_cons_succ, List.set_cons_zero] <;> exact rfl)); intro h H) | ((with_reducible apply stEl0 (E := eRow) ⟨_, _, _, _, _⟩ H 0); exact rfl; assumption; (case hk => assumption); (first | exact rfl | (dsimp only [eRow, List.set_cons_succ, List.set_cons_zero] <;> exact rfl)); intro h H) | ((with_reducible apply allocAt H); intro h b H) | ((with_reducible refine ⟨?_, ?_⟩); first | ((with_reducible apply ldAt H 0); exact rfl; exact rfl; exact rfl) | ((with_reducible apply ldAt0 H 0); exact rfl; exact rfl; exact rfl) | ((with_reducible apply ldEl H 0); exact rfl; assumption; (case hk => assumption); exact rfl; exact rfl) | ((with_reducible apply ldEl0 H 0); exact rfl; assumption; (case hk => assumption); exact rfl; exact rfl) | ((with_reducible apply ldElS H 0); exact rfl; assumption; (case hk => assumption); exact rfl; exact rfl) | ((with_reducible apply ldElS0 H 0); exact rfl; assumption; (case hk => assumption); exact rfl; exact rfl)))
    repeat (first | with_reducible refine nn ?_ | with_reducible refine let_ ?_ | with_reducible refine brSome ?_ | with_reducible refine brF ?_ | with_reducible refine brT ?_ | ((with_reducible apply ldAt H 0); exact rfl; exact rfl) | ((with_reducible apply ldAt0 H 0); exact rfl; exact rfl) | ((with_reducible apply ldAt H 8); exact rfl; exact rfl) | ((with_reducible apply ldAt0 H 8); exact rfl; exact rfl) | ((with_reducible apply stAt H 0); exact rfl; exact rfl; intro h H) | ((with_reducible apply stAt0 H 0); exact rfl; exact rfl; intro h H) | ((with_reducible apply stAt H 8); exact rfl; exact rfl; intro h H) | ((with_reducible apply stAt0 H 8); exact rfl; exact rfl; intro h H) | ((with_reducible refine ⟨?_, ?_⟩); first | ((with_reducible apply ldAt H 0); exact rfl; exact rfl; exact rfl) | ((with_reducible apply ldAt0 H 0); exact rfl; exact rfl; exact rfl) | ((with_reducible apply ldAt H 8); exact rfl; exact rfl; exact rfl) | ((with_reducible apply ldAt0 H 8); exact rfl; exact rfl; exact rfl)))
    have w : IntKind.i64.wrap ((i : Int) + 1) = ((i + 1 : Nat) : Int) := by rw [w64 (by omega) (by omega)]; omega
    refine br beq_iff_eq (fun htx => ?_) fun htx => ?_
    · repeat (first | with_reducible refine nn ?_ | with_reducible refine let_ ?_ | with_reducible refine brSome ?_ | with_reducible refine brF ?_ | with_reducible refine brT ?_ | ((with_reducible apply ldAt H 0); exact rfl; exact rfl) | ((with_reducible apply ldAt0 H 0); exact rfl; exact rfl) | ((with_reducible apply ldAt H 4); exact rfl; exact rfl) | ((with_reducible apply ldAt0 H 4); exact rfl; exact rfl) | ((with_reducible apply stAt H 0); exact rfl; exact rfl; intro h H) | ((with_reducible apply stAt0 H 0); exact rfl; exact rfl; intro h H) | ((with_reducible apply stAt H 4); exact rfl; exact rfl; intro h H) | ((with_reducible apply stAt0 H 4); exact rfl; exact rfl; intro h H) | ((with_reducible apply allocAt H); intro h b H) | ((with_reducible refine ⟨?_, ?_⟩); first | ((with_reducible apply ldAt H 0); exact rfl; exact rfl; exact rfl) | ((with_reducible apply ldAt0 H 0); exact rfl; exact rfl; exact rfl) | ((with_reducible apply ldAt H 4); exact rfl; exact rfl; exact rfl) | ((with_reducible apply ldAt0 H 4); exact rfl; exact rfl; exact rfl)))
      rw [w]
      exact ⟨⟨i + 1, res.1[i], rfl, by omega, by rw [if_pos rfl]; exact (hcu _).2 ⟨List.getElem_mem hi2, htx⟩, H.tail⟩, by omega⟩
    · rw [w]
      refine ⟨⟨i + 1, q, rfl, by omega, ?_, H.tail⟩, by omega⟩
      by_cases h1 : sm = true
      · rw [if_pos h1] at hsm ⊢; exact hsm
      · rw [if_neg h1] at hsm ⊢
        refine ⟨hsm.1, fun m hm hmi => ?_⟩
        by_cases e : m < i
        · exact hsm.2 m hm e
        · obtain rfl : m = i := by omega
          exact htx
  · have hjl : i = res.1.length := by omega
    subst hjl
    have hoq : oc.isSome = sm ∧ rowO oc = q := by
      by_cases h1 : sm = true
      · rw [if_pos h1] at hsm; rw [hsm, h1]; exact ⟨rfl, rfl⟩
      · rw [if_neg h1] at hsm
        cases oc with
        | none => exact ⟨(Bool.eq_false_iff.2 h1).symm, hsm.1.symm⟩
        | some o =>
          obtain ⟨m1, m2⟩ := (hcu o).1 rfl
          obtain ⟨m, hm, rfl⟩ := List.getElem_of_mem m1
          exact absurd m2 (hsm.2 m hm hm)
    obtain ⟨e1, e2⟩ := hoq
    refine brN (by rw [e1]; cases sm <;> rfl) ?_
    repeat (first | with_reducible refine nn ?_ | with_reducible refine let_ ?_ | with_reducible refine brSome ?_ | with_reducible refine brF ?_ | with_reducible refine brT ?_ | ((with_reducible apply ldAt H 3); exact rfl; exact rfl) | ((with_reducible apply ldAt0 H 3); exact rfl; exact rfl) | ((with_reducible apply ldAt H 4); exact rfl; exact rfl) | ((with_reducible apply ldAt0 H 4); exact rfl; exact rfl) | ((with_reducible apply stAt H 3); exact rfl; exact rfl; intro h H) | ((with_reducible apply stAt0 H 3); exact rfl; exact rfl; intro h H) | ((with_reducible apply stAt H 4); exact rfl; exact rfl; intro h H) | ((with_reducible apply stAt0 H 4); exact rfl; exact rfl; intro h H) | ((with_reducible apply allocAt H); intro h b H) | ((with_reducible refine ⟨?_, ?_⟩); first | ((with_reducible apply ldAt H 3); exact rfl; exact rfl; exact rfl) | ((with_reducible apply ldAt0 H 3); exact rfl; exact rfl; exact rfl) | ((with_reducible apply ldAt H 4); exact rfl; exact rfl; exact rfl) | ((with_reducible apply ldAt0 H 4); exact rfl; exact rfl; exact rfl)))
    rw [e2]
    refine opNeq (us := eRow.cells q) (vs := eRow.cells q) (by kernel_rfl) (brN (by rw [(row_eqL _ _).2 rfl]; rfl) ?_)
    have H := ((H.tail.del 2).del 2).keep 4
    rw [show IntKind.i64.wrap ((j : Int) + 1) = ((j + 1 : Nat) : Int) by rw [w64 (by omega) (by omega)]; omega]
    exact ⟨⟨j + 1, s, s2, res.1, L', ty2, rfl, by omega, H, ho', hr', by omega⟩, by omega⟩
end Go.Proofs.Ytmpekddpehhdnaa
