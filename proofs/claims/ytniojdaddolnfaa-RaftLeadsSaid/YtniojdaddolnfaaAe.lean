/-
  Layer 8 (raft): the contracts of the messages that bring no entries.
-/
import Derived.Test.YtniojdaddolnfaaAd
namespace Go.Proofs.Ytniojdaddolnfaa
open Go

def mcells (m : RM) : List Value := [.int .i64 m.kind, .int .i64 m.from_, .int .i64 m.to, .int .i64 m.term, .int .i64 m.index, .int .i64 m.logTerm, .int .i64 m.commit, .bool m.yes, .slice none 0 0]
section
variable {h0 h : Heap} {F : List Res} {d : Nat} {X : RN} {m : RM}
theorem ldM {kd : Kd} {j b : Nat} {t : TypeId} {cs : List Value} {K : kd.T → Prop} (H : RaftAt h0 h d X (.blk b t cs :: F)) (x : kd.T) (hx : cs[j]? = some (kd.mk x)) (hK : K x) : Ld kd h ((⟨b, 0, none⟩ : Addr).add j) K := ldAt H.ats 0 rfl x hx hK
theorem ldM0 {kd : Kd} {b : Nat} {t : TypeId} {cs : List Value} {K : kd.T → Prop} (H : RaftAt h0 h d X (.blk b t cs :: F)) (x : kd.T) (hx : cs[0]? = some (kd.mk x)) (hK : K x) : Ld kd h (⟨b, 0, none⟩ : Addr) K := ldAt0 H.ats 0 rfl x hx hK
theorem raft_counts_ok {R : Bool → Heap → Prop} (H : RaftAt h0 h d X F) (he : m.ents = []) (hR : ∀ h', RaftAt h0 h' d X F → R (decide (countsB X m)) h') :
    C_raft_Node_counts (some ⟨d, 0, none⟩) (m.kind, m.from_, m.to, m.term, m.index, m.logTerm, m.commit, m.yes, ⟨none, 0, 0⟩, ()) h R := by
  refine A_raft_Node_counts ?_
  unfold S_raft_Node_counts
  refine RaftAt.alloc (cs := mcells m) H fun h b H => ?_
  have no : ¬ countsB X m → R false h := fun hn => by
    have := hR h H.tail
    rwa [decide_eq_false hn] at this
  unfold countsB at no
  refine ldM (j := 2) H m.to rfl (nn (ldR0_ok H X.id (fun _ _ => rfl) ?_))
  refine br beq_iff_eq (fun h1 => ?_) fun h1 => no fun x => h1 x.1
  refine ldM (j := 1) H m.from_ rfl (nn (ldR0_ok H X.id (fun _ _ => rfl) ?_))
  refine br bne_iff_ne (fun h2 => ?_) fun h2 => no fun x => h2 x.2.1
  refine ldM (j := 1) H m.from_ rfl (brD (fun h3 => ?_) fun h3 => no fun x => h3 x.2.2.1)
  refine ldM (j := 1) H m.from_ rfl (nn (ldR_ok (j := 1) H X.n (fun _ _ => rfl) (brD (fun h4 => ?_) fun h4 => no fun x => h4 x.2.2.2.1)))
  refine ldM0 H m.kind rfl (brD (fun h5 => ?_) fun h5 => no fun x => h5 x.2.2.2.2.1)
  refine ldM0 H m.kind rfl (brD (fun h6 => ?_) fun h6 => no fun x => h6 x.2.2.2.2.2.1)
  refine ldM (j := 3) H m.term rfl (brD (fun h7 => ?_) fun h7 => no fun x => h7 x.2.2.2.2.2.2.1)
  refine ldM (j := 3) H m.term rfl (brD (fun h8 => ?_) fun h8 => no fun x => h8 x.2.2.2.2.2.2.2.1)
  refine ldM (j := 8) H (⟨none, 0, 0⟩ : Sl) rfl (brY (by decide) ?_)
  refine ldM (j := 8) H (⟨none, 0, 0⟩ : Sl) rfl ?_
  refine A_slices_ContainsFunc_api_Entry_api_Entry (cap := some ⟨b, 0, none⟩) ?_
  refine A_slices_IndexFunc_api_Entry_api_Entry (cap := some ⟨b, 0, none⟩) ?_
  refine loop1 (s1 := .one (.int .i64)) (fun (y : Int) g1 => y = 0 ∧ g1 = h) (fun _ _ => 0) ⟨rfl, rfl⟩ fun _ (y : Int) g1 hI => ?_
  obtain ⟨rfl, rfl⟩ := hI
  refine brN (by decide) ?_
  have := hR g1 H.tail
  rw [decide_eq_true (show countsB X m from ⟨h1, h2, h3, h4, h5, h6, h7, h8, by rw [he]; exact Nat.zero_le _, fun e hm => by rw [he] at hm; cases hm⟩)] at this
  exact this
theorem sendE {to : Int} {m : RM} {R : Heap → Prop} (H : RaftAt h0 h d X F) (he : m.ents = []) (ho : X.out.length ≤ 999999) (hR : ∀ h', RaftAt h0 h' d (rSend X to m) F → R h') :
    C_raft_Node_send (some ⟨d, 0, none⟩) to (m.kind, m.from_, m.to, m.term, m.index, m.logTerm, m.commit, m.yes, ⟨none, 0, 0⟩, ()) h R := raft_send_ok (H.nilE he) ho hR
theorem youngR_ok {index term : Int} {R : Bool → Heap → Prop} {q : Addr → Addr} (H : RaftAt h0 h d X F) (hl : X.log.length ≤ 100000) (hR : R (decide (youngB X.log index term)) h) {lg : Option Addr} (hlg : ∀ K : Option Addr → Prop, Ld .ptr h ((⟨d, 0, none⟩ : Addr).add 11) K → K lg) : C_log_Log_Younger lg index term h R := by
  obtain ⟨ty, g, tl, sl, so, z, hz, H⟩ := H
  have : lg = some ⟨g, 0, none⟩ := hlg (fun l => l = some ⟨g, 0, none⟩) (ldAt (j := 11) H 0 rfl (some ⟨g, 0, none⟩) rfl rfl)
  subst this
  exact log_Younger_ok H 1 rfl 2 rfl hl hR
theorem raft_askPre_ok {R : Heap → Prop} (H : RaftAt h0 h d X F) (hl : X.log.length ≤ 100000) (ho : X.out.length ≤ 999999) (hR : ∀ h', RaftAt h0 h' d (rAskPre X m) F → R h') :
    C_raft_Node_askPre (some ⟨d, 0, none⟩) (m.kind, m.from_, m.to, m.term, m.index, m.logTerm, m.commit, m.yes, ⟨none, 0, 0⟩, ()) h R := by
  refine A_raft_Node_askPre ?_
  unfold S_raft_Node_askPre
  refine RaftAt.alloc (cs := mcells m) H fun h b H => ?_
  unfold rAskPre at hR
  refine join1 (s1 := .one .bool) (fun (q : Bool) h1 => (q = true ↔ preB X m) ∧ h1 = h) (fun _ (q : Bool) h1 hJ => ?_) ?_
  · obtain ⟨hq, rfl⟩ := hJ
    have hq2 : q = decide (preB X m) := by rw [Bool.eq_iff_iff, hq, decide_eq_true_iff]
    subst hq2
    refine nn (ldR_ok (j := 4) H X.term (fun _ _ => rfl) ?_)
    refine brD (fun hp => ?_) fun hp => ?_
    · rw [if_pos hp] at hR
      refine ldM (j := 3) H m.term rfl (ldM (j := 1) H m.from_ rfl ?_)
      exact sendE (m := ⟨2, 0, 0, m.term, 0, 0, 0, decide (preB X m), []⟩) H rfl ho fun h2 H => hR _ H.tail
    · rw [if_neg hp] at hR
      refine ldM (j := 1) H m.from_ rfl ?_
      exact sendE (m := ⟨2, 0, 0, X.term, 0, 0, 0, decide (preB X m), []⟩) H rfl ho fun h2 H => hR _ H.tail
  · unfold preB
    refine ldM (j := 3) H m.term rfl (nn (ldR_ok (j := 4) H X.term (fun _ _ => rfl) ?_))
    refine brD (fun h1 => ?_) fun h1 => ⟨⟨fun x => (by cases x), fun x => absurd x.1 h1⟩, rfl⟩
    have H0 := H
    obtain ⟨ty, lg, tl, sl, so, z, hz, H⟩ := H
    refine nn (ldAt (j := 11) H 0 rfl (some ⟨lg, 0, none⟩) rfl ?_)
    refine ldM (j := 4) H0 m.index rfl (ldM (j := 5) H0 m.logTerm rfl ?_)
    refine log_Younger_ok H 1 rfl 2 rfl hl (brD (fun h2 => ?_) fun h2 => ⟨⟨fun x => (by cases x), fun x => absurd x.2.1 h2⟩, rfl⟩)
    refine nn (ldR_ok (j := 6) H0 X.role (fun _ _ => rfl) (br bne_iff_ne (fun h3 => ?_) fun h3 => ⟨⟨fun x => (by cases x), fun x => absurd x.2.2.1 h3⟩, rfl⟩))
    refine nn (ldR_ok (j := 7) H0 X.leader (fun _ _ => rfl) (br beq_iff_eq (fun h4 => ⟨⟨fun _ => ⟨h1, h2, h3, .inl h4⟩, fun _ => rfl⟩, rfl⟩) fun h4 => ?_))
    refine nn (ldR_ok (j := 8) H0 X.since (fun _ _ => rfl) (nn (ldR_ok (j := 2) H0 X.elect (fun _ _ => rfl) (let_ ⟨?_, rfl⟩))))
    rw [decide_eq_true_iff]
    exact ⟨fun x => ⟨h1, h2, h3, .inr x⟩, fun x => x.2.2.2.resolve_left h4⟩
theorem raft_tellPre_ok {R : Heap → Prop} (H : RaftAt h0 h d X F) (hb : RB X) (hc0 : 0 ≤ X.commit) (ht : 0 ≤ X.term ∧ X.term ≤ 1099511627776) (hv : X.votes < 128) (hf : 0 ≤ m.from_ ∧ m.from_ < 7) (ho : X.out.length ≤ 770000) (hR : ∀ h', RaftAt h0 h' d (rTellPre X m) F → R h') :
    C_raft_Node_tellPre (some ⟨d, 0, none⟩) (m.kind, m.from_, m.to, m.term, m.index, m.logTerm, m.commit, m.yes, ⟨none, 0, 0⟩, ()) h R := by
  refine A_raft_Node_tellPre ?_
  unfold S_raft_Node_tellPre
  refine RaftAt.alloc (cs := mcells m) H fun h b H => ?_
  unfold rTellPre at hR
  refine join1 (s1 := .one .bool) (fun (q : Bool) h1 => (q = true ↔ (m.yes = false ∧ m.term > X.term)) ∧ h1 = h) (fun _ (q : Bool) h1 hJ => ?_) ?_
  rotate_left
  · refine ldM (j := 7) H m.yes rfl (brNot (fun hy => ?_) fun hy => ⟨⟨fun x => (by cases x), fun x => by rw [hy] at x; cases x.1⟩, rfl⟩)
    refine ldM (j := 3) H m.term rfl (nn (ldR_ok (j := 4) H X.term (fun _ _ => rfl) ⟨?_, rfl⟩))
    rw [decide_eq_true_iff]
    exact ⟨fun x => ⟨hy, x⟩, fun x => x.2⟩
  obtain ⟨hq, rfl⟩ := hJ
  refine brB (fun hqt => ?_) fun hqf => ?_
  · rw [if_pos (hq.1 hqt)] at hR
    refine ldM (j := 3) H m.term rfl ?_
    exact raft_follow_ok H fun h2 H => hR _ H.tail
  · rw [if_neg fun x => by rw [hq.2 x] at hqf; cases hqf] at hR
    refine join1 (s1 := .one .bool) (fun (q : Bool) h2 => (q = true ↔ (m.yes = true ∧ m.term = X.term + 1 ∧ X.role = 1)) ∧ h2 = h1) (fun _ (q : Bool) h2 hJ => ?_) ?_
    rotate_left
    · refine ldM (j := 7) H m.yes rfl (brB (fun hy => ?_) fun hy => ⟨⟨fun x => (by cases x), fun x => by rw [hy] at x; cases x.1⟩, rfl⟩)
      refine ldM (j := 3) H m.term rfl (nn (ldR_ok (j := 4) H X.term (fun _ _ => rfl) ?_))
      rw [w64 (by omega) (by omega)]
      refine br beq_iff_eq (fun h3 => ?_) fun h3 => ⟨⟨fun x => (by cases x), fun x => absurd x.2.1 h3⟩, rfl⟩
      refine nn (ldR_ok (j := 6) H X.role (fun _ _ => rfl) ⟨?_, rfl⟩)
      rw [beq_iff_eq]
      exact ⟨fun x => ⟨hy, h3, x⟩, fun x => x.2.2⟩
    obtain ⟨hq2, rfl⟩ := hJ
    refine brB (fun hqt => ?_) fun hqf2 => ?_
    · rw [if_pos (hq2.1 hqt)] at hR
      refine nn (ldR_ok (j := 12) H (X.votes : Int) (fun _ _ => rfl) (ldM (j := 1) H m.from_ rfl (nneg (by rw [wu64 (by omega) (by omega)]; omega) (nn ?_))))
      rw [bit_orT hv hf.1 hf.2]
      refine stR_ok (j := 12) { X with votes := X.votes ||| 2 ^ m.from_.toNat } H rfl rfl rfl (fun _ _ => rfl) fun h3 H => nn ?_
      refine ldR_ok (j := 12) H ((X.votes ||| 2 ^ m.from_.toNat : Nat) : Int) (fun _ _ => rfl) ?_
      refine raft_most_ok H (or7 hv hf.1 hf.2) (brD (fun hm => ?_) fun hm => ?_)
      · rw [if_pos (show mostB X _ from hm)] at hR
        exact raft_stands_ok H (hb.of rfl rfl rfl rfl) hc0 ht (by show X.out.length ≤ _; omega) fun h4 H => hR _ H.tail
      · rw [if_neg (show ¬ mostB X _ from hm)] at hR
        exact hR _ H.tail
    · rw [if_neg fun x => by rw [hq2.2 x] at hqf2; cases hqf2] at hR
      exact hR _ H.tail
theorem raft_told_ok {to index : Int} {yes : Bool} {R : Heap → Prop} (H : RaftAt h0 h d X F) (ho : X.out.length ≤ 999999) (hR : ∀ h', RaftAt h0 h' d (rTold X to yes index) F → R h') : C_raft_Node_told (some ⟨d, 0, none⟩) to yes index h R := by
  refine A_raft_Node_told ?_
  unfold S_raft_Node_told
  refine nn (ldR_ok (j := 4) H X.term (fun _ _ => rfl) ?_)
  exact sendE (m := ⟨6, 0, 0, X.term, index, 0, 0, yes, []⟩) H rfl ho hR
theorem raft_askVote_ok {R : Heap → Prop} (H : RaftAt h0 h d X F) (hl : X.log.length ≤ 100000) (ho : X.out.length ≤ 999999) (hR : ∀ h', RaftAt h0 h' d (rAskVote X m) F → R h') :
    C_raft_Node_askVote (some ⟨d, 0, none⟩) (m.kind, m.from_, m.to, m.term, m.index, m.logTerm, m.commit, m.yes, ⟨none, 0, 0⟩, ()) h R := by
  refine A_raft_Node_askVote ?_
  unfold S_raft_Node_askVote
  refine RaftAt.alloc (cs := mcells m) H fun h b H => ?_
  unfold rAskVote at hR
  refine join1 (s1 := .one .bool) (fun (q : Bool) h1 => (q = true ↔ voteB X m) ∧ h1 = h) (fun _ (q : Bool) h1 hJ => ?_) ?_
  · obtain ⟨hq, rfl⟩ := hJ
    have hq2 : q = decide (voteB X m) := by rw [Bool.eq_iff_iff, hq, decide_eq_true_iff]
    subst hq2
    refine join0 (fun h2 => RaftAt h0 h2 d (if voteB X m then { X with hard := X.hard || (X.vote != m.from_), vote := m.from_, since := 0 } else X) (.blk b 47 (mcells m) :: F)) (fun _ h2 H => ?_) ?_
    · refine ldM (j := 1) H m.from_ rfl (nn (ldR_ok (j := 4) H X.term (fun _ _ => by split <;> rfl) ?_))
      exact sendE (m := ⟨4, 0, 0, X.term, 0, 0, 0, decide (voteB X m), []⟩) H rfl (by split <;> exact ho) fun h3 H => hR _ H.tail
    · refine brD (fun hp => ?_) fun hp => ?_
      · rw [if_pos hp]
        refine join0 (fun h2 => RaftAt h0 h2 d { X with hard := X.hard || (X.vote != m.from_) } (.blk b 47 (mcells m) :: F)) (fun _ h2 H => ?_) ?_
        · refine ldM (j := 1) H m.from_ rfl (nn ?_)
          refine stR_ok (j := 5) { X with hard := X.hard || (X.vote != m.from_), vote := m.from_ } H rfl rfl rfl (fun _ _ => rfl) fun h3 H => nn ?_
          exact stR_ok (j := 8) { X with hard := X.hard || (X.vote != m.from_), vote := m.from_, since := 0 } H rfl rfl rfl (fun _ _ => rfl) fun h3 H => H
        · refine nn (ldR_ok (j := 29) H X.hard (fun _ _ => rfl) (brB (fun hh => nn ?_) fun hh => nn ?_))
          · refine stR_ok (j := 29) { X with hard := X.hard || (X.vote != m.from_) } H rfl rfl rfl (fun lg so => by rw [hh]; rfl) fun h3 H => H
          · refine ldR_ok (j := 5) H X.vote (fun _ _ => rfl) (ldM (j := 1) H m.from_ rfl (nn ?_))
            exact stR_ok (j := 29) { X with hard := X.hard || (X.vote != m.from_) } H rfl rfl rfl (fun lg so => by rw [hh]; rfl) fun h3 H => H
      · rw [if_neg hp]; exact H
  · unfold voteB
    have H0 := H
    have young : (X.vote = -1 ∨ X.vote = m.from_) → X.role ≠ 3 → Nn (some (⟨d, 0, none⟩ : Addr)) fun p9 => Ld .ptr h (p9.add 11) fun (log : Option Addr) => Ld (.int .i64) h ((⟨b, 0, none⟩ : Addr).add 4) fun (Index : Int) => Ld (.int .i64) h ((⟨b, 0, none⟩ : Addr).add 5) fun (LogTerm : Int) => C_log_Log_Younger log Index LogTerm h fun (r : Bool) h_9 => (r = true ↔ ((X.vote = -1 ∨ X.vote = m.from_) ∧ X.role ≠ 3 ∧ youngB X.log m.index m.logTerm)) ∧ h_9 = h := fun hv hr => by
      obtain ⟨ty, lg, tl, sl, so, z, hz, H⟩ := H
      refine nn (ldAt (j := 11) H 0 rfl (some ⟨lg, 0, none⟩) rfl ?_)
      refine ldM (j := 4) H0 m.index rfl (ldM (j := 5) H0 m.logTerm rfl ?_)
      refine log_Younger_ok H 1 rfl 2 rfl hl ⟨?_, rfl⟩
      rw [decide_eq_true_iff]
      exact ⟨fun x => ⟨hv, hr, x⟩, fun x => x.2.2⟩
    refine nn (ldR_ok (j := 5) H X.vote (fun _ _ => rfl) (br beq_iff_eq (fun h1 => ?_) fun h1 => ?_))
    · refine nn (ldR_ok (j := 6) H X.role (fun _ _ => rfl) (br bne_iff_ne (fun h2 => young (.inl h1) h2) fun h2 => ⟨⟨fun x => (by cases x), fun x => absurd x.2.1 h2⟩, rfl⟩))
    · refine nn (ldR_ok (j := 5) H X.vote (fun _ _ => rfl) (ldM (j := 1) H m.from_ rfl (br beq_iff_eq (fun h3 => ?_) fun h3 => ⟨⟨fun x => (by cases x), fun x => by rcases x.1 with x | x; exact absurd x h1; exact absurd x h3⟩, rfl⟩)))
      refine nn (ldR_ok (j := 6) H X.role (fun _ _ => rfl) (br bne_iff_ne (fun h2 => young (.inr h3) h2) fun h2 => ⟨⟨fun x => (by cases x), fun x => absurd x.2.1 h2⟩, rfl⟩))
theorem raft_tellVote_ok {R : Heap → Prop} (H : RaftAt h0 h d X F) (hb : RB X) (hc0 : 0 ≤ X.commit) (hv : X.votes < 128) (hf : 0 ≤ m.from_ ∧ m.from_ < 7) (ho : X.out.length ≤ 770000) (hR : ∀ h', RaftAt h0 h' d (rTellVote X m) F → R h') :
    C_raft_Node_tellVote (some ⟨d, 0, none⟩) (m.kind, m.from_, m.to, m.term, m.index, m.logTerm, m.commit, m.yes, ⟨none, 0, 0⟩, ()) h R := by
  refine A_raft_Node_tellVote ?_
  unfold S_raft_Node_tellVote
  refine RaftAt.alloc (cs := mcells m) H fun h b H => ?_
  unfold rTellVote at hR
  refine join1 (s1 := .one .bool) (fun (q : Bool) h1 => (q = true ↔ (m.yes = false ∨ X.role ≠ 2)) ∧ h1 = h) (fun _ (q : Bool) h1 hJ => ?_) ?_
  rotate_left
  · refine ldM (j := 7) H m.yes rfl (brNot (fun hy => ⟨⟨fun _ => .inl hy, fun _ => rfl⟩, rfl⟩) fun hy => ?_)
    refine nn (ldR_ok (j := 6) H X.role (fun _ _ => rfl) ⟨?_, rfl⟩)
    rw [bne_iff_ne]
    exact ⟨fun x => .inr x, fun x => by rcases x with x | x; rw [hy] at x; cases x; exact x⟩
  obtain ⟨hq, rfl⟩ := hJ
  refine brB (fun hqt => ?_) fun hqf => ?_
  · rw [if_pos (hq.1 hqt)] at hR; exact hR _ H.tail
  · rw [if_neg fun x => by rw [hq.2 x] at hqf; cases hqf] at hR
    refine nn (ldR_ok (j := 12) H (X.votes : Int) (fun _ _ => rfl) (ldM (j := 1) H m.from_ rfl (nneg (by rw [wu64 (by omega) (by omega)]; omega) (nn ?_))))
    rw [bit_orT hv hf.1 hf.2]
    refine stR_ok (j := 12) { X with votes := X.votes ||| 2 ^ m.from_.toNat } H rfl rfl rfl (fun _ _ => rfl) fun h3 H => nn ?_
    refine ldR_ok (j := 12) H ((X.votes ||| 2 ^ m.from_.toNat : Nat) : Int) (fun _ _ => rfl) ?_
    refine raft_most_ok H (or7 hv hf.1 hf.2) (brD (fun hm => ?_) fun hm => ?_)
    · rw [if_pos (show mostB X _ from hm)] at hR
      exact raft_leads_ok H (hb.of rfl rfl rfl rfl) hc0 (by show X.out.length ≤ _; omega) fun h4 H => hR _ H.tail
    · rw [if_neg (show ¬ mostB X _ from hm)] at hR
      exact hR _ H.tail
theorem rAgree_same (X : RN) : (rAgree X).n = X.n ∧ (rAgree X).id = X.id ∧ (rAgree X).next = X.next ∧ (rAgree X).log = X.log ∧ (rAgree X).matc = X.matc ∧ (rAgree X).role = X.role ∧ (rAgree X).term = X.term := by
  unfold rAgree
  split <;> exact ⟨rfl, rfl, rfl, rfl, rfl, rfl, rfl⟩
theorem rAgree_len (hb : RB X) : (rAgree X).out.length ≤ X.out.length + 7 := by
  unfold rAgree
  split
  · exact Nat.le_add_right _ _
  · rename_i c _
    exact rToAll_len (X := { X with commit := (c : Int) }) (hb.of rfl rfl rfl rfl)
theorem RB.hear1 (hb : RB X) (hm : ∀ t, 0 ≤ X.matc t ∧ X.matc t ≤ 1024) (k : Nat) {i : Int} (hi : i ≤ 1024) : RB (rHear1 X k i) := ⟨hb.n1, hb.n7, hb.id0, hb.idn, fun t => by
  have h1 := hm k
  have h2 := hb.nx t
  show 0 ≤ upd X.next k (mx (X.matc k) i + 1) t ∧ upd X.next k (mx (X.matc k) i + 1) t ≤ 1025
  unfold upd mx
  split
  · split <;> omega
  · exact h2, hb.l⟩
theorem RB.hear2 (hb : RB X) (hm : ∀ t, 0 ≤ X.matc t ∧ X.matc t ≤ 1024) (k : Nat) (i : Int) : RB (rHear2 X k i) := ⟨hb.n1, hb.n7, hb.id0, hb.idn, fun t => by
  have h1 := hm k
  have h2 := hb.nx t
  have h3 := hb.nx k
  show 0 ≤ upd X.next k _ t ∧ upd X.next k _ t ≤ (1025 : Int)
  unfold upd
  split
  · unfold mx mn
    repeat' split
    all_goals omega
  · exact h2, hb.l⟩
set_option maxHeartbeats 1600000 in
theorem raft_hears_ok {k : Nat} {R : Heap → Prop} (H : RaftAt h0 h d X F) (hb : RB X) (hc0 : 0 ≤ X.commit) (hh : X.heard < 128) (hm : ∀ t, 0 ≤ X.matc t ∧ X.matc t ≤ 1024) (hf : m.from_ = (k : Int)) (hk : k < 7) (ho : X.out.length ≤ 700000) (hR : ∀ h', RaftAt h0 h' d (rHears X m) F → R h') :
    C_raft_Node_hears (some ⟨d, 0, none⟩) (m.kind, m.from_, m.to, m.term, m.index, m.logTerm, m.commit, m.yes, ⟨none, 0, 0⟩, ()) h R := by
  refine A_raft_Node_hears ?_
  unfold S_raft_Node_hears
  refine RaftAt.alloc (cs := mcells m) H fun h b H => ?_
  unfold rHears at hR
  have hl := hb.l
  have hkn : m.from_.toNat = k := by omega
  rw [hkn] at hR
  refine nn (ldR_ok (j := 6) H X.role (fun _ _ => rfl) (br bne_iff_ne (fun h1 => ?_) fun h1 => nn ?_))
  · rw [if_pos h1] at hR; exact hR _ H.tail
  rw [if_neg h1] at hR
  refine ldR_ok (j := 13) H (X.heard : Int) (fun _ _ => rfl) (ldM (j := 1) H m.from_ rfl (nneg (by rw [wu64 (by omega) (by omega)]; omega) (nn ?_)))
  rw [bit_orT hh (by omega) (by omega), hkn]
  refine stR_ok (j := 13) (rHear0 X k) H rfl rfl rfl (fun _ _ => rfl) fun h2 H => ?_
  refine ldM (j := 1) H m.from_ rfl (nn (ixArr k hf hk ?_))
  refine raft_Last_ok H (by show X.log.length ≤ _; omega) ⟨ldM (j := 1) H m.from_ rfl rfl, ?_⟩
  refine join1 (s1 := .one .bool) (fun (q : Bool) h3 => (q = true ↔ (m.yes = true ∧ 0 ≤ m.index ∧ m.index ≤ X.log.length)) ∧ h3 = h2) (fun _ (q : Bool) h3 hJ => ?_) ?_
  rotate_left
  · refine ldM (j := 7) H m.yes rfl (brB (fun hy => ?_) fun hy => ⟨⟨fun x => (by cases x), fun x => by rw [hy] at x; cases x.1⟩, rfl⟩)
    refine ldM (j := 4) H m.index rfl (brD (fun h4 => ?_) fun h4 => ⟨⟨fun x => (by cases x), fun x => absurd x.2.1 h4⟩, rfl⟩)
    refine ldM (j := 4) H m.index rfl ⟨?_, rfl⟩
    rw [decide_eq_true_iff]
    exact ⟨fun x => ⟨hy, h4, x⟩, fun x => x.2.2⟩
  obtain ⟨hq, rfl⟩ := hJ
  refine brB (fun hqt => nn ?_) fun hqf => ?_
  · have hc := hq.1 hqt
    rw [if_pos hc] at hR
    have hmk := hm k
    have hnk := hb.nx k
    have hmx : 0 ≤ mx (X.matc k) m.index ∧ mx (X.matc k) m.index ≤ 1024 := by unfold mx; split <;> omega
    refine ldR_ok (j := 21 + k) H (X.matc k) (fun lg so => cells_matc (rHear0 X k) lg so k hk) (ldM (j := 4) H m.index rfl (nn ?_))
    refine stR_ok (j := 21 + k) { rHear0 X k with matc := upd X.matc k (mx (X.matc k) m.index) } H (by simp; omega) rfl rfl (fun lg so => cells_matcS (rHear0 X k) lg so _ k hk) fun h4 H => ?_
    refine ldM (j := 1) H m.from_ rfl (nn ?_)
    refine ldR_ok (j := 21 + k) H (mx (X.matc k) m.index) (fun lg so => (cells_matc { rHear0 X k with matc := upd X.matc k (mx (X.matc k) m.index) } lg so k hk).trans (by show some (Value.int .i64 (if k = k then _ else _)) = _; rw [if_pos rfl])) (nn (ixArr k hf hk ?_))
    rw [w64 (by omega) (by omega)]
    refine stR_ok (j := 14 + k) (rHear1 X k m.index) H (by simp; omega) rfl rfl (fun lg so => cells_nextS { rHear0 X k with matc := upd X.matc k (mx (X.matc k) m.index) } lg so _ k hk) fun h5 H => ?_
    have hb1 := hb.hear1 hm k (i := m.index) (by omega)
    obtain ⟨e1, e2, e3, e4, e5, _, _⟩ := rAgree_same (rHear1 X k m.index)
    have hlen := rAgree_len hb1
    have hlen : (rAgree (rHear1 X k m.index)).out.length ≤ X.out.length + 7 := hlen
    refine raft_agree_ok H hb1 hc0 (by show X.out.length ≤ _; omega) fun h6 H => nn ?_
    refine ldR_ok (j := 21 + k) H ((rAgree (rHear1 X k m.index)).matc k) (fun lg so => cells_matc _ lg so k hk) ?_
    refine raft_Last_ok H (by rw [e4]; show X.log.length ≤ _; omega) ⟨ldR_ok (j := 21 + k) H _ (fun lg so => cells_matc _ lg so k hk) rfl, ?_⟩
    have el : ((rAgree (rHear1 X k m.index)).log.length : Int) = X.log.length := by rw [e4]; rfl
    rw [el]
    refine brD (fun h7 => ?_) fun h7 => ?_
    · rw [if_pos h7] at hR
      refine ldM (j := 1) H m.from_ rfl ?_
      rw [hf]
      exact raft_to_ok H (hb1.of e1 e2 e3 e4) hk (by omega) fun h8 H => hR _ H.tail
    · rw [if_neg h7] at hR
      exact hR _ H.tail
  · rw [if_neg fun x => by rw [hq.2 x] at hqf; cases hqf] at hR
    refine ldM (j := 7) H m.yes rfl (brNot (fun hy => ?_) fun hy => ?_)
    · rw [if_pos hy] at hR
      have hmk := hm k
      have hnk := hb.nx k
      refine ldM (j := 1) H m.from_ rfl (ldM (j := 4) H m.index rfl (ldM (j := 1) H m.from_ rfl (nn (ixArr k hf hk ?_))))
      refine ldR_ok (j := 14 + k) H (X.next k) (fun lg so => cells_next (rHear0 X k) lg so k hk) (nn ?_)
      refine ldR_ok (j := 21 + k) H (X.matc k) (fun lg so => cells_matc (rHear0 X k) lg so k hk) (nn (ixArr k hf hk ?_))
      have hB : 0 ≤ mn (mx m.index 0) (X.log.length : Int) ∧ mn (mx m.index 0) (X.log.length : Int) ≤ 1024 := by
        unfold mn mx
        repeat' split
        all_goals omega
      rw [w64 (n := X.matc k + 1) (by omega) (by omega), w64 (n := X.next k - 1) (by omega) (by omega)]
      have hw := w64 (n := mn (mx m.index 0) (X.log.length : Int) + 1) (by omega) (by omega)
      unfold mn mx at hw
      refine stR_ok (j := 14 + k) (rHear2 X k m.index) H (by simp; omega) rfl rfl (fun lg so => ?_) fun h5 H => ?_
      · show _ = List.set _ _ (Value.int .i64 (if X.matc k + 1 > (if X.next k - 1 < IntKind.i64.wrap ((if (X.log.length : Int) < (if 0 > m.index then 0 else m.index) then (X.log.length : Int) else if 0 > m.index then 0 else m.index) + 1) then X.next k - 1 else IntKind.i64.wrap ((if (X.log.length : Int) < (if 0 > m.index then 0 else m.index) then (X.log.length : Int) else if 0 > m.index then 0 else m.index) + 1)) then X.matc k + 1 else if X.next k - 1 < IntKind.i64.wrap ((if (X.log.length : Int) < (if 0 > m.index then 0 else m.index) then (X.log.length : Int) else if 0 > m.index then 0 else m.index) + 1) then X.next k - 1 else IntKind.i64.wrap ((if (X.log.length : Int) < (if 0 > m.index then 0 else m.index) then (X.log.length : Int) else if 0 > m.index then 0 else m.index) + 1)))
        rw [hw]
        exact cells_nextS (rHear0 X k) lg so _ k hk
      refine ldM (j := 1) H m.from_ rfl ?_
      rw [hf]
      exact raft_to_ok H (hb.hear2 hm k m.index) hk (by show X.out.length ≤ _; omega) fun h8 H => hR _ H.tail
    · rw [if_neg (by rw [hy]; decide)] at hR
      exact hR _ H.tail
theorem rNewer_same (X : RN) (m : RM) : (rNewer X m).n = X.n ∧ (rNewer X m).id = X.id ∧ (rNewer X m).next = X.next ∧ (rNewer X m).log = X.log ∧ (rNewer X m).matc = X.matc ∧ (rNewer X m).out = X.out ∧ (rNewer X m).commit = X.commit ∧ (rNewer X m).votes = X.votes ∧ (rNewer X m).heard = X.heard := by
  unfold rNewer rFollow
  split <;> exact ⟨rfl, rfl, rfl, rfl, rfl, rfl, rfl, rfl, rfl⟩
theorem raft_Step_ok {R : Heap → Prop} (H : RaftAt h0 h d X F) (hb : RB X) (hc0 : 0 ≤ X.commit) (ht : 0 ≤ X.term ∧ X.term ≤ 1099511627776) (hv : X.votes < 128) (hh : X.heard < 128) (hmt : ∀ t, 0 ≤ X.matc t ∧ X.matc t ≤ 1024) (ho : X.out.length ≤ 600000) (he : m.ents = []) (hk5 : m.kind ≠ 5)
    (hR : ∀ h', RaftAt h0 h' d (rStep X m) F → R h') : C_raft_Node_Step (some ⟨d, 0, none⟩) (m.kind, m.from_, m.to, m.term, m.index, m.logTerm, m.commit, m.yes, ⟨none, 0, 0⟩, ()) h R := by
  refine A_raft_Node_Step ?_
  unfold S_raft_Node_Step
  have hl := hb.l
  have hn7 := hb.n7
  refine RaftAt.alloc (cs := mcells m) H fun h b H => ?_
  unfold rStep at hR
  have ldAll : ∀ {h1 : Heap} {Y : RN} {K : Int → Int → Int → Int → Int → Int → Int → Bool → Sl → Prop}, RaftAt h0 h1 d Y (.blk b 47 (mcells m) :: F) → K m.kind m.from_ m.to m.term m.index m.logTerm m.commit m.yes ⟨none, 0, 0⟩ →
      Ld (.int .i64) h1 (⟨b, 0, none⟩ : Addr) fun (a0 : Int) => Ld (.int .i64) h1 ((⟨b, 0, none⟩ : Addr).add 1) fun (a1 : Int) => Ld (.int .i64) h1 ((⟨b, 0, none⟩ : Addr).add 2) fun (a2 : Int) => Ld (.int .i64) h1 ((⟨b, 0, none⟩ : Addr).add 3) fun (a3 : Int) => Ld (.int .i64) h1 ((⟨b, 0, none⟩ : Addr).add 4) fun (a4 : Int) => Ld (.int .i64) h1 ((⟨b, 0, none⟩ : Addr).add 5) fun (a5 : Int) => Ld (.int .i64) h1 ((⟨b, 0, none⟩ : Addr).add 6) fun (a6 : Int) => Ld .bool h1 ((⟨b, 0, none⟩ : Addr).add 7) fun (a7 : Bool) => Ld .sl h1 ((⟨b, 0, none⟩ : Addr).add 8) fun (a8 : Sl) => K a0 a1 a2 a3 a4 a5 a6 a7 a8 := fun {h1 Y K} H hK =>
    ldM0 H m.kind rfl (ldM (j := 1) H m.from_ rfl (ldM (j := 2) H m.to rfl (ldM (j := 3) H m.term rfl (ldM (j := 4) H m.index rfl (ldM (j := 5) H m.logTerm rfl (ldM (j := 6) H m.commit rfl (ldM (j := 7) H m.yes rfl (ldM (j := 8) H (⟨none, 0, 0⟩ : Sl) rfl hK))))))))
  refine join1 (s1 := .one .bool) (fun (q : Bool) h1 => (q = true ↔ ¬ countsB X m) ∧ RaftAt h0 h1 d X (.blk b 47 (mcells m) :: F)) (fun _ (q : Bool) h1 hJ => ?_) ?_
  rotate_left
  · refine brF (ldAll H (raft_counts_ok H he fun h2 H => ⟨?_, H⟩))
    by_cases hc : countsB X m
    · rw [decide_eq_true hc]; exact ⟨fun x => (by cases x), fun x => absurd hc x⟩
    · rw [decide_eq_false hc]; exact ⟨fun _ => hc, fun _ => rfl⟩
  obtain ⟨hq, H⟩ := hJ
  refine brB (fun hqt => ?_) fun hqf => ?_
  · rw [if_pos (hq.1 hqt)] at hR; exact hR _ H.tail
  have hc : countsB X m := Decidable.byContradiction fun x => by rw [hq.2 x] at hqf; cases hqf
  rw [if_neg fun x => x hc] at hR
  obtain ⟨c1, c2, c3, c4, c5, c6, c7, c8, _, _⟩ := hc
  refine ldM0 H m.kind rfl (br beq_iff_eq (fun k1 => ?_) fun k1 => ?_)
  · rw [if_pos k1] at hR
    exact ldAll H (raft_askPre_ok H (by omega) (by omega) fun h2 H => hR _ H.tail)
  rw [if_neg k1] at hR
  refine br beq_iff_eq (fun k2 => ?_) fun k2 => ?_
  · rw [if_pos k2] at hR
    exact ldAll H (raft_tellPre_ok H hb hc0 ht hv ⟨c3, by omega⟩ (by omega) fun h2 H => hR _ H.tail)
  rw [if_neg k2] at hR
  refine ldM (j := 3) H m.term rfl (nn (ldR_ok (j := 4) H X.term (fun _ _ => rfl) ?_))
  refine join0 (fun h2 => RaftAt h0 h2 d (rNewer X m) (.blk b 47 (mcells m) :: F)) (fun _ h2 H => ?_) ?_
  rotate_left
  · unfold rNewer
    refine brD (fun h3 => ?_) fun h3 => ?_
    · rw [if_pos h3]
      exact ldM (j := 3) H m.term rfl (raft_follow_ok H fun h4 H => H)
    · rw [if_neg h3]; exact H
  obtain ⟨e1, e2, e3, e4, e5, e6, e7, e8, e9⟩ := rNewer_same X m
  have hb2 := hb.of e1 e2 e3 e4
  refine ldM (j := 3) H m.term rfl (nn (ldR_ok (j := 4) H (rNewer X m).term (fun _ _ => rfl) (brD (fun h3 => ?_) fun h3 => ?_)))
  · rw [if_pos h3] at hR
    refine ldM0 H m.kind rfl (br beq_iff_eq (fun k5 => absurd k5 hk5) fun k5 => ?_)
    rw [if_neg k5] at hR
    exact hR _ H.tail
  rw [if_neg h3] at hR
  refine ldM0 H m.kind rfl (br beq_iff_eq (fun k3 => ?_) fun k3 => ?_)
  · rw [if_pos k3] at hR
    exact ldAll H (raft_askVote_ok H (by rw [e4]; omega) (by rw [e6]; omega) fun h2 H => hR _ H.tail)
  rw [if_neg k3] at hR
  refine ldM0 H m.kind rfl (br beq_iff_eq (fun k4 => ?_) fun k4 => ?_)
  · rw [if_pos k4] at hR
    exact ldAll H (raft_tellVote_ok H hb2 (by rw [e7]; exact hc0) (by rw [e8]; exact hv) ⟨c3, by omega⟩ (by rw [e6]; omega) fun h2 H => hR _ H.tail)
  rw [if_neg k4] at hR
  refine ldM0 H m.kind rfl (br beq_iff_eq (fun k5 => absurd k5 hk5) fun k5 => ?_)
  exact ldAll H (raft_hears_ok (k := m.from_.toNat) H hb2 (by rw [e7]; exact hc0) (by rw [e9]; exact hh) (by rw [e5]; exact hmt) (by omega) (by omega) (by rw [e6]; omega) fun h2 H => hR _ H.tail)
end
end Go.Proofs.Ytniojdaddolnfaa
