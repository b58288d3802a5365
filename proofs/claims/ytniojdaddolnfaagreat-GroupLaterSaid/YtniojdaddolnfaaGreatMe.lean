/-
  Several of the proof's texts in one: Ae, Af, Ga, Gb, C1, F1, SBC, BC, O, SF, C2, SB.
-/
import Derived.Test.YtniojdaddolnfaaGreatMd
import Derived.Orders
import Derived.Test.YtniojdaddolnfaaGreatMc
import Derived.Test.YtniojdaddolnfaaGreatProg
import Derived.Test.YtniojdaddolnfaaGreatMb
import Derived.WalkKit
import Derived.Defers
import Derived.Laws.Pointers
import Derived.Laws.LoneSync
import Derived.RegionCalls
import Derived.ChangeAlike
set_option linter.unusedVariables false
set_option linter.unusedSimpArgs false

/-
  Layer 8 (raft): the contracts of the messages that bring no entries.
-/
namespace Go.Proofs.YtniojdaddolnfaaGreat
open Go

def mcells (m : RM) : List Value := [.int .i64 m.kind, .int .i64 m.from_, .int .i64 m.to, .int .i64 m.term, .int .i64 m.index, .int .i64 m.logTerm, .int .i64 m.commit, .bool m.yes, .slice none 0 0]
section
variable {h0 h : Heap} {F : List Res} {d : Nat} {X : RN} {m : RM}
theorem ldM {kd : Kd} {j b : Nat} {t : TypeId} {cs : List Value} {K : kd.T → Prop} (H : RaftAt h0 h d X (.blk b t cs :: F)) (x : kd.T) (hx : cs[j]? = some (kd.mk x)) (hK : K x) : Ld kd h ((⟨b, 0, none⟩ : Addr).add j) K := ldAt H.ats 0 rfl x hx hK
theorem ldM0 {kd : Kd} {b : Nat} {t : TypeId} {cs : List Value} {K : kd.T → Prop} (H : RaftAt h0 h d X (.blk b t cs :: F)) (x : kd.T) (hx : cs[0]? = some (kd.mk x)) (hK : K x) : Ld kd h (⟨b, 0, none⟩ : Addr) K := ldAt0 H.ats 0 rfl x hx hK
theorem raft_counts_ok {R : Bool → Heap → Prop} (H : RaftAt h0 h d X F) (he : m.ents = []) (hR : ∀ h', RaftAt h0 h' d X F → R (decide (countsB X m)) h') :
    C_raft_Node_counts (some ⟨d, 0, none⟩) (m.kind, m.from_, m.to, m.term, m.index, m.logTerm, m.commit, m.yes, ⟨none, 0, 0⟩, ()) h R := by
  refine A_raft_Node_counts ?_
  unfold S_raft_Node_counts
  refine RaftAt.alloc (cs := mcells m) H fun h b H => ?_
  have no : ¬ countsB X m → R false h := fun hn => by
    have := hR h H.tail
    rwa [decide_eq_false hn] at this
  unfold countsB at no
  refine ldM (j := 2) H m.to rfl (nn (ldR0_ok H X.id (fun _ _ => rfl) ?_))
  refine br beq_iff_eq (fun h1 => ?_) fun h1 => no fun x => h1 x.1
  refine ldM (j := 1) H m.from_ rfl (nn (ldR0_ok H X.id (fun _ _ => rfl) ?_))
  refine br bne_iff_ne (fun h2 => ?_) fun h2 => no fun x => h2 x.2.1
  refine ldM (j := 1) H m.from_ rfl (brD (fun h3 => ?_) fun h3 => no fun x => h3 x.2.2.1)
  refine ldM (j := 1) H m.from_ rfl (nn (ldR_ok (j := 1) H X.n (fun _ _ => rfl) (brD (fun h4 => ?_) fun h4 => no fun x => h4 x.2.2.2.1)))
  refine ldM0 H m.kind rfl (brD (fun h5 => ?_) fun h5 => no fun x => h5 x.2.2.2.2.1)
  refine ldM0 H m.kind rfl (brD (fun h6 => ?_) fun h6 => no fun x => h6 x.2.2.2.2.2.1)
  refine ldM (j := 3) H m.term rfl (brD (fun h7 => ?_) fun h7 => no fun x => h7 x.2.2.2.2.2.2.1)
  refine ldM (j := 3) H m.term rfl (brD (fun h8 => ?_) fun h8 => no fun x => h8 x.2.2.2.2.2.2.2.1)
  refine ldM (j := 8) H (⟨none, 0, 0⟩ : Sl) rfl (brY (by decide) ?_)
  refine ldM (j := 8) H (⟨none, 0, 0⟩ : Sl) rfl ?_
  refine A_slices_ContainsFunc_api_Entry_api_Entry (cap := some ⟨b, 0, none⟩) ?_
  refine A_slices_IndexFunc_api_Entry_api_Entry (cap := some ⟨b, 0, none⟩) ?_
  refine loop1 (s1 := .one (.int .i64)) (fun (y : Int) g1 => y = 0 ∧ g1 = h) (fun _ _ => 0) ⟨rfl, rfl⟩ fun _ (y : Int) g1 hI => ?_
  obtain ⟨rfl, rfl⟩ := hI
  refine brN (by decide) ?_
  have := hR g1 H.tail
  rw [decide_eq_true (show countsB X m from ⟨h1, h2, h3, h4, h5, h6, h7, h8, by rw [he]; exact Nat.zero_le _, fun e hm => by rw [he] at hm; cases hm⟩)] at this
  exact this
theorem sendE {to : Int} {m : RM} {R : Heap → Prop} (H : RaftAt h0 h d X F) (he : m.ents = []) (ho : X.out.length ≤ 999999) (hR : ∀ h', RaftAt h0 h' d (rSend X to m) F → R h') :
    C_raft_Node_send (some ⟨d, 0, none⟩) to (m.kind, m.from_, m.to, m.term, m.index, m.logTerm, m.commit, m.yes, ⟨none, 0, 0⟩, ()) h R := raft_send_ok (H.nilE he) ho hR
theorem youngR_ok {index term : Int} {R : Bool → Heap → Prop} {q : Addr → Addr} (H : RaftAt h0 h d X F) (hl : X.log.length ≤ 100000) (hR : R (decide (youngB X.log index term)) h) {lg : Option Addr} (hlg : ∀ K : Option Addr → Prop, Ld .ptr h ((⟨d, 0, none⟩ : Addr).add 11) K → K lg) : C_log_Log_Younger lg index term h R := by
  obtain ⟨ty, g, tl, sl, so, z, hz, H⟩ := H
  have : lg = some ⟨g, 0, none⟩ := hlg (fun l => l = some ⟨g, 0, none⟩) (ldAt (j := 11) H 0 rfl (some ⟨g, 0, none⟩) rfl rfl)
  subst this
  exact log_Younger_ok H 1 rfl 2 rfl hl hR
theorem raft_askPre_ok {R : Heap → Prop} (H : RaftAt h0 h d X F) (hl : X.log.length ≤ 100000) (ho : X.out.length ≤ 999999) (hR : ∀ h', RaftAt h0 h' d (rAskPre X m) F → R h') :
    C_raft_Node_askPre (some ⟨d, 0, none⟩) (m.kind, m.from_, m.to, m.term, m.index, m.logTerm, m.commit, m.yes, ⟨none, 0, 0⟩, ()) h R := by
  refine A_raft_Node_askPre ?_
  unfold S_raft_Node_askPre
  refine RaftAt.alloc (cs := mcells m) H fun h b H => ?_
  unfold rAskPre at hR
  refine join1 (s1 := .one .bool) (fun (q : Bool) h1 => (q = true ↔ preB X m) ∧ h1 = h) (fun _ (q : Bool) h1 hJ => ?_) ?_
  · obtain ⟨hq, rfl⟩ := hJ
    have hq2 : q = decide (preB X m) := by rw [Bool.eq_iff_iff, hq, decide_eq_true_iff]
    subst hq2
    refine nn (ldR_ok (j := 4) H X.term (fun _ _ => rfl) ?_)
    refine brD (fun hp => ?_) fun hp => ?_
    · rw [if_pos hp] at hR
      refine ldM (j := 3) H m.term rfl (ldM (j := 1) H m.from_ rfl ?_)
      exact sendE (m := ⟨2, 0, 0, m.term, 0, 0, 0, decide (preB X m), []⟩) H rfl ho fun h2 H => hR _ H.tail
    · rw [if_neg hp] at hR
      refine ldM (j := 1) H m.from_ rfl ?_
      exact sendE (m := ⟨2, 0, 0, X.term, 0, 0, 0, decide (preB X m), []⟩) H rfl ho fun h2 H => hR _ H.tail
  · unfold preB
    refine ldM (j := 3) H m.term rfl (nn (ldR_ok (j := 4) H X.term (fun _ _ => rfl) ?_))
    refine brD (fun h1 => ?_) fun h1 => ⟨⟨fun x => (by cases x), fun x => absurd x.1 h1⟩, rfl⟩
    have H0 := H
    obtain ⟨ty, lg, tl, sl, so, z, hz, H⟩ := H
    refine nn (ldAt (j := 11) H 0 rfl (some ⟨lg, 0, none⟩) rfl ?_)
    refine ldM (j := 4) H0 m.index rfl (ldM (j := 5) H0 m.logTerm rfl ?_)
    refine log_Younger_ok H 1 rfl 2 rfl hl (brD (fun h2 => ?_) fun h2 => ⟨⟨fun x => (by cases x), fun x => absurd x.2.1 h2⟩, rfl⟩)
    refine nn (ldR_ok (j := 6) H0 X.role (fun _ _ => rfl) (br bne_iff_ne (fun h3 => ?_) fun h3 => ⟨⟨fun x => (by cases x), fun x => absurd x.2.2.1 h3⟩, rfl⟩))
    refine nn (ldR_ok (j := 7) H0 X.leader (fun _ _ => rfl) (br beq_iff_eq (fun h4 => ⟨⟨fun _ => ⟨h1, h2, h3, .inl h4⟩, fun _ => rfl⟩, rfl⟩) fun h4 => ?_))
    refine nn (ldR_ok (j := 8) H0 X.since (fun _ _ => rfl) (nn (ldR_ok (j := 2) H0 X.elect (fun _ _ => rfl) (let_ ⟨?_, rfl⟩))))
    rw [decide_eq_true_iff]
    exact ⟨fun x => ⟨h1, h2, h3, .inr x⟩, fun x => x.2.2.2.resolve_left h4⟩
theorem raft_tellPre_ok {R : Heap → Prop} (H : RaftAt h0 h d X F) (hb : RB X) (hc0 : 0 ≤ X.commit) (ht : 0 ≤ X.term ∧ X.term ≤ 1099511627776) (hv : X.votes < 128) (hf : 0 ≤ m.from_ ∧ m.from_ < 7) (ho : X.out.length ≤ 770000) (hR : ∀ h', RaftAt h0 h' d (rTellPre X m) F → R h') :
    C_raft_Node_tellPre (some ⟨d, 0, none⟩) (m.kind, m.from_, m.to, m.term, m.index, m.logTerm, m.commit, m.yes, ⟨none, 0, 0⟩, ()) h R := by
  refine A_raft_Node_tellPre ?_
  unfold S_raft_Node_tellPre
  refine RaftAt.alloc (cs := mcells m) H fun h b H => ?_
  unfold rTellPre at hR
  refine join1 (s1 := .one .bool) (fun (q : Bool) h1 => (q = true ↔ (m.yes = false ∧ m.term > X.term)) ∧ h1 = h) (fun _ (q : Bool) h1 hJ => ?_) ?_
  rotate_left
  · refine ldM (j := 7) H m.yes rfl (brNot (fun hy => ?_) fun hy => ⟨⟨fun x => (by cases x), fun x => by rw [hy] at x; cases x.1⟩, rfl⟩)
    refine ldM (j := 3) H m.term rfl (nn (ldR_ok (j := 4) H X.term (fun _ _ => rfl) ⟨?_, rfl⟩))
    rw [decide_eq_true_iff]
    exact ⟨fun x => ⟨hy, x⟩, fun x => x.2⟩
  obtain ⟨hq, rfl⟩ := hJ
  refine brB (fun hqt => ?_) fun hqf => ?_
  · rw [if_pos (hq.1 hqt)] at hR
    refine ldM (j := 3) H m.term rfl ?_
    exact raft_follow_ok H fun h2 H => hR _ H.tail
  · rw [if_neg fun x => by rw [hq.2 x] at hqf; cases hqf] at hR
    refine join1 (s1 := .one .bool) (fun (q : Bool) h2 => (q = true ↔ (m.yes = true ∧ m.term = X.term + 1 ∧ X.role = 1)) ∧ h2 = h1) (fun _ (q : Bool) h2 hJ => ?_) ?_
    rotate_left
    · refine ldM (j := 7) H m.yes rfl (brB (fun hy => ?_) fun hy => ⟨⟨fun x => (by cases x), fun x => by rw [hy] at x; cases x.1⟩, rfl⟩)
      refine ldM (j := 3) H m.term rfl (nn (ldR_ok (j := 4) H X.term (fun _ _ => rfl) ?_))
      rw [w64 (by omega) (by omega)]
      refine br beq_iff_eq (fun h3 => ?_) fun h3 => ⟨⟨fun x => (by cases x), fun x => absurd x.2.1 h3⟩, rfl⟩
      refine nn (ldR_ok (j := 6) H X.role (fun _ _ => rfl) ⟨?_, rfl⟩)
      rw [beq_iff_eq]
      exact ⟨fun x => ⟨hy, h3, x⟩, fun x => x.2.2⟩
    obtain ⟨hq2, rfl⟩ := hJ
    refine brB (fun hqt => ?_) fun hqf2 => ?_
    · rw [if_pos (hq2.1 hqt)] at hR
      refine nn (ldR_ok (j := 12) H (X.votes : Int) (fun _ _ => rfl) (ldM (j := 1) H m.from_ rfl (nneg (by rw [wu64 (by omega) (by omega)]; omega) (nn ?_))))
      rw [bit_orT hv hf.1 hf.2]
      refine stR_ok (j := 12) { X with votes := X.votes ||| 2 ^ m.from_.toNat } H rfl rfl rfl (fun _ _ => rfl) fun h3 H => nn ?_
      refine ldR_ok (j := 12) H ((X.votes ||| 2 ^ m.from_.toNat : Nat) : Int) (fun _ _ => rfl) ?_
      refine raft_most_ok H (or7 hv hf.1 hf.2) (brD (fun hm => ?_) fun hm => ?_)
      · rw [if_pos (show mostB X _ from hm)] at hR
        exact raft_stands_ok H (hb.of rfl rfl rfl rfl) hc0 ht (by show X.out.length ≤ _; omega) fun h4 H => hR _ H.tail
      · rw [if_neg (show ¬ mostB X _ from hm)] at hR
        exact hR _ H.tail
    · rw [if_neg fun x => by rw [hq2.2 x] at hqf2; cases hqf2] at hR
      exact hR _ H.tail
theorem raft_told_ok {to index : Int} {yes : Bool} {R : Heap → Prop} (H : RaftAt h0 h d X F) (ho : X.out.length ≤ 999999) (hR : ∀ h', RaftAt h0 h' d (rTold X to yes index) F → R h') : C_raft_Node_told (some ⟨d, 0, none⟩) to yes index h R := by
  refine A_raft_Node_told ?_
  unfold S_raft_Node_told
  refine nn (ldR_ok (j := 4) H X.term (fun _ _ => rfl) ?_)
  exact sendE (m := ⟨6, 0, 0, X.term, index, 0, 0, yes, []⟩) H rfl ho hR
theorem raft_askVote_ok {R : Heap → Prop} (H : RaftAt h0 h d X F) (hl : X.log.length ≤ 100000) (ho : X.out.length ≤ 999999) (hR : ∀ h', RaftAt h0 h' d (rAskVote X m) F → R h') :
    C_raft_Node_askVote (some ⟨d, 0, none⟩) (m.kind, m.from_, m.to, m.term, m.index, m.logTerm, m.commit, m.yes, ⟨none, 0, 0⟩, ()) h R := by
  refine A_raft_Node_askVote ?_
  unfold S_raft_Node_askVote
  refine RaftAt.alloc (cs := mcells m) H fun h b H => ?_
  unfold rAskVote at hR
  refine join1 (s1 := .one .bool) (fun (q : Bool) h1 => (q = true ↔ voteB X m) ∧ h1 = h) (fun _ (q : Bool) h1 hJ => ?_) ?_
  · obtain ⟨hq, rfl⟩ := hJ
    have hq2 : q = decide (voteB X m) := by rw [Bool.eq_iff_iff, hq, decide_eq_true_iff]
    subst hq2
    refine join0 (fun h2 => RaftAt h0 h2 d (if voteB X m then { X with hard := X.hard || (X.vote != m.from_), vote := m.from_, since := 0 } else X) (.blk b 59 (mcells m) :: F)) (fun _ h2 H => ?_) ?_
    · refine ldM (j := 1) H m.from_ rfl (nn (ldR_ok (j := 4) H X.term (fun _ _ => by split <;> rfl) ?_))
      exact sendE (m := ⟨4, 0, 0, X.term, 0, 0, 0, decide (voteB X m), []⟩) H rfl (by split <;> exact ho) fun h3 H => hR _ H.tail
    · refine brD (fun hp => ?_) fun hp => ?_
      · rw [if_pos hp]
        refine join0 (fun h2 => RaftAt h0 h2 d { X with hard := X.hard || (X.vote != m.from_) } (.blk b 59 (mcells m) :: F)) (fun _ h2 H => ?_) ?_
        · refine ldM (j := 1) H m.from_ rfl (nn ?_)
          refine stR_ok (j := 5) { X with hard := X.hard || (X.vote != m.from_), vote := m.from_ } H rfl rfl rfl (fun _ _ => rfl) fun h3 H => nn ?_
          exact stR_ok (j := 8) { X with hard := X.hard || (X.vote != m.from_), vote := m.from_, since := 0 } H rfl rfl rfl (fun _ _ => rfl) fun h3 H => H
        · refine nn (ldR_ok (j := 29) H X.hard (fun _ _ => rfl) (brB (fun hh => nn ?_) fun hh => nn ?_))
          · refine stR_ok (j := 29) { X with hard := X.hard || (X.vote != m.from_) } H rfl rfl rfl (fun lg so => by rw [hh]; rfl) fun h3 H => H
          · refine ldR_ok (j := 5) H X.vote (fun _ _ => rfl) (ldM (j := 1) H m.from_ rfl (nn ?_))
            exact stR_ok (j := 29) { X with hard := X.hard || (X.vote != m.from_) } H rfl rfl rfl (fun lg so => by rw [hh]; rfl) fun h3 H => H
      · rw [if_neg hp]; exact H
  · unfold voteB
    have H0 := H
    have young : (X.vote = -1 ∨ X.vote = m.from_) → X.role ≠ 3 → Nn (some (⟨d, 0, none⟩ : Addr)) fun p9 => Ld .ptr h (p9.add 11) fun (log : Option Addr) => Ld (.int .i64) h ((⟨b, 0, none⟩ : Addr).add 4) fun (Index : Int) => Ld (.int .i64) h ((⟨b, 0, none⟩ : Addr).add 5) fun (LogTerm : Int) => C_log_Log_Younger log Index LogTerm h fun (r : Bool) h_9 => (r = true ↔ ((X.vote = -1 ∨ X.vote = m.from_) ∧ X.role ≠ 3 ∧ youngB X.log m.index m.logTerm)) ∧ h_9 = h := fun hv hr => by
      obtain ⟨ty, lg, tl, sl, so, z, hz, H⟩ := H
      refine nn (ldAt (j := 11) H 0 rfl (some ⟨lg, 0, none⟩) rfl ?_)
      refine ldM (j := 4) H0 m.index rfl (ldM (j := 5) H0 m.logTerm rfl ?_)
      refine log_Younger_ok H 1 rfl 2 rfl hl ⟨?_, rfl⟩
      rw [decide_eq_true_iff]
      exact ⟨fun x => ⟨hv, hr, x⟩, fun x => x.2.2⟩
    refine nn (ldR_ok (j := 5) H X.vote (fun _ _ => rfl) (br beq_iff_eq (fun h1 => ?_) fun h1 => ?_))
    · refine nn (ldR_ok (j := 6) H X.role (fun _ _ => rfl) (br bne_iff_ne (fun h2 => young (.inl h1) h2) fun h2 => ⟨⟨fun x => (by cases x), fun x => absurd x.2.1 h2⟩, rfl⟩))
    · refine nn (ldR_ok (j := 5) H X.vote (fun _ _ => rfl) (ldM (j := 1) H m.from_ rfl (br beq_iff_eq (fun h3 => ?_) fun h3 => ⟨⟨fun x => (by cases x), fun x => by rcases x.1 with x | x; exact absurd x h1; exact absurd x h3⟩, rfl⟩)))
      refine nn (ldR_ok (j := 6) H X.role (fun _ _ => rfl) (br bne_iff_ne (fun h2 => young (.inr h3) h2) fun h2 => ⟨⟨fun x => (by cases x), fun x => absurd x.2.1 h2⟩, rfl⟩))
theorem raft_tellVote_ok {R : Heap → Prop} (H : RaftAt h0 h d X F) (hb : RB X) (hc0 : 0 ≤ X.commit) (hv : X.votes < 128) (hf : 0 ≤ m.from_ ∧ m.from_ < 7) (ho : X.out.length ≤ 770000) (hR : ∀ h', RaftAt h0 h' d (rTellVote X m) F → R h') :
    C_raft_Node_tellVote (some ⟨d, 0, none⟩) (m.kind, m.from_, m.to, m.term, m.index, m.logTerm, m.commit, m.yes, ⟨none, 0, 0⟩, ()) h R := by
  refine A_raft_Node_tellVote ?_
  unfold S_raft_Node_tellVote
  refine RaftAt.alloc (cs := mcells m) H fun h b H => ?_
  unfold rTellVote at hR
  refine join1 (s1 := .one .bool) (fun (q : Bool) h1 => (q = true ↔ (m.yes = false ∨ X.role ≠ 2)) ∧ h1 = h) (fun _ (q : Bool) h1 hJ => ?_) ?_
  rotate_left
  · refine ldM (j := 7) H m.yes rfl (brNot (fun hy => ⟨⟨fun _ => .inl hy, fun _ => rfl⟩, rfl⟩) fun hy => ?_)
    refine nn (ldR_ok (j := 6) H X.role (fun _ _ => rfl) ⟨?_, rfl⟩)
    rw [bne_iff_ne]
    exact ⟨fun x => .inr x, fun x => by rcases x with x | x; rw [hy] at x; cases x; exact x⟩
  obtain ⟨hq, rfl⟩ := hJ
  refine brB (fun hqt => ?_) fun hqf => ?_
  · rw [if_pos (hq.1 hqt)] at hR; exact hR _ H.tail
  · rw [if_neg fun x => by rw [hq.2 x] at hqf; cases hqf] at hR
    refine nn (ldR_ok (j := 12) H (X.votes : Int) (fun _ _ => rfl) (ldM (j := 1) H m.from_ rfl (nneg (by rw [wu64 (by omega) (by omega)]; omega) (nn ?_))))
    rw [bit_orT hv hf.1 hf.2]
    refine stR_ok (j := 12) { X with votes := X.votes ||| 2 ^ m.from_.toNat } H rfl rfl rfl (fun _ _ => rfl) fun h3 H => nn ?_
    refine ldR_ok (j := 12) H ((X.votes ||| 2 ^ m.from_.toNat : Nat) : Int) (fun _ _ => rfl) ?_
    refine raft_most_ok H (or7 hv hf.1 hf.2) (brD (fun hm => ?_) fun hm => ?_)
    · rw [if_pos (show mostB X _ from hm)] at hR
      exact raft_leads_ok H (hb.of rfl rfl rfl rfl) hc0 (by show X.out.length ≤ _; omega) fun h4 H => hR _ H.tail
    · rw [if_neg (show ¬ mostB X _ from hm)] at hR
      exact hR _ H.tail
theorem rAgree_same (X : RN) : (rAgree X).n = X.n ∧ (rAgree X).id = X.id ∧ (rAgree X).next = X.next ∧ (rAgree X).log = X.log ∧ (rAgree X).matc = X.matc ∧ (rAgree X).role = X.role ∧ (rAgree X).term = X.term := by
  unfold rAgree
  split <;> exact ⟨rfl, rfl, rfl, rfl, rfl, rfl, rfl⟩
theorem rAgree_len (hb : RB X) : (rAgree X).out.length ≤ X.out.length + 7 := by
  unfold rAgree
  split
  · exact Nat.le_add_right _ _
  · rename_i c _
    exact rToAll_len (X := { X with commit := (c : Int) }) (hb.of rfl rfl rfl rfl)
theorem RB.hear1 (hb : RB X) (hm : ∀ t, 0 ≤ X.matc t ∧ X.matc t ≤ 1024) (k : Nat) {i : Int} (hi : i ≤ 1024) : RB (rHear1 X k i) := ⟨hb.n1, hb.n7, hb.id0, hb.idn, fun t => by
  have h1 := hm k
  have h2 := hb.nx t
  show 0 ≤ upd X.next k (mx (X.matc k) i + 1) t ∧ upd X.next k (mx (X.matc k) i + 1) t ≤ 1025
  unfold upd mx
  split
  · split <;> omega
  · exact h2, hb.l⟩
theorem RB.hear2 (hb : RB X) (hm : ∀ t, 0 ≤ X.matc t ∧ X.matc t ≤ 1024) (k : Nat) (i : Int) : RB (rHear2 X k i) := ⟨hb.n1, hb.n7, hb.id0, hb.idn, fun t => by
  have h1 := hm k
  have h2 := hb.nx t
  have h3 := hb.nx k
  show 0 ≤ upd X.next k _ t ∧ upd X.next k _ t ≤ (1025 : Int)
  unfold upd
  split
  · unfold mx mn
    repeat' split
    all_goals omega
  · exact h2, hb.l⟩
set_option maxHeartbeats 1600000 in
theorem raft_hears_ok {k : Nat} {R : Heap → Prop} (H : RaftAt h0 h d X F) (hb : RB X) (hc0 : 0 ≤ X.commit) (hh : X.heard < 128) (hm : ∀ t, 0 ≤ X.matc t ∧ X.matc t ≤ 1024) (hf : m.from_ = (k : Int)) (hk : k < 7) (ho : X.out.length ≤ 700000) (hR : ∀ h', RaftAt h0 h' d (rHears X m) F → R h') :
    C_raft_Node_hears (some ⟨d, 0, none⟩) (m.kind, m.from_, m.to, m.term, m.index, m.logTerm, m.commit, m.yes, ⟨none, 0, 0⟩, ()) h R := by
  refine A_raft_Node_hears ?_
  unfold S_raft_Node_hears
  refine RaftAt.alloc (cs := mcells m) H fun h b H => ?_
  unfold rHears at hR
  have hl := hb.l
  have hkn : m.from_.toNat = k := by omega
  rw [hkn] at hR
  refine nn (ldR_ok (j := 6) H X.role (fun _ _ => rfl) (br bne_iff_ne (fun h1 => ?_) fun h1 => nn ?_))
  · rw [if_pos h1] at hR; exact hR _ H.tail
  rw [if_neg h1] at hR
  refine ldR_ok (j := 13) H (X.heard : Int) (fun _ _ => rfl) (ldM (j := 1) H m.from_ rfl (nneg (by rw [wu64 (by omega) (by omega)]; omega) (nn ?_)))
  rw [bit_orT hh (by omega) (by omega), hkn]
  refine stR_ok (j := 13) (rHear0 X k) H rfl rfl rfl (fun _ _ => rfl) fun h2 H => ?_
  refine ldM (j := 1) H m.from_ rfl (nn (ixArr k hf hk ?_))
  refine raft_Last_ok H (by show X.log.length ≤ _; omega) ⟨ldM (j := 1) H m.from_ rfl rfl, ?_⟩
  refine join1 (s1 := .one .bool) (fun (q : Bool) h3 => (q = true ↔ (m.yes = true ∧ 0 ≤ m.index ∧ m.index ≤ X.log.length)) ∧ h3 = h2) (fun _ (q : Bool) h3 hJ => ?_) ?_
  rotate_left
  · refine ldM (j := 7) H m.yes rfl (brB (fun hy => ?_) fun hy => ⟨⟨fun x => (by cases x), fun x => by rw [hy] at x; cases x.1⟩, rfl⟩)
    refine ldM (j := 4) H m.index rfl (brD (fun h4 => ?_) fun h4 => ⟨⟨fun x => (by cases x), fun x => absurd x.2.1 h4⟩, rfl⟩)
    refine ldM (j := 4) H m.index rfl ⟨?_, rfl⟩
    rw [decide_eq_true_iff]
    exact ⟨fun x => ⟨hy, h4, x⟩, fun x => x.2.2⟩
  obtain ⟨hq, rfl⟩ := hJ
  refine brB (fun hqt => nn ?_) fun hqf => ?_
  · have hc := hq.1 hqt
    rw [if_pos hc] at hR
    have hmk := hm k
    have hnk := hb.nx k
    have hmx : 0 ≤ mx (X.matc k) m.index ∧ mx (X.matc k) m.index ≤ 1024 := by unfold mx; split <;> omega
    refine ldR_ok (j := 21 + k) H (X.matc k) (fun lg so => cells_matc (rHear0 X k) lg so k hk) (ldM (j := 4) H m.index rfl (nn ?_))
    refine stR_ok (j := 21 + k) { rHear0 X k with matc := upd X.matc k (mx (X.matc k) m.index) } H (by simp; omega) rfl rfl (fun lg so => cells_matcS (rHear0 X k) lg so _ k hk) fun h4 H => ?_
    refine ldM (j := 1) H m.from_ rfl (nn ?_)
    refine ldR_ok (j := 21 + k) H (mx (X.matc k) m.index) (fun lg so => (cells_matc { rHear0 X k with matc := upd X.matc k (mx (X.matc k) m.index) } lg so k hk).trans (by show some (Value.int .i64 (if k = k then _ else _)) = _; rw [if_pos rfl])) (nn (ixArr k hf hk ?_))
    rw [w64 (by omega) (by omega)]
    refine stR_ok (j := 14 + k) (rHear1 X k m.index) H (by simp; omega) rfl rfl (fun lg so => cells_nextS { rHear0 X k with matc := upd X.matc k (mx (X.matc k) m.index) } lg so _ k hk) fun h5 H => ?_
    have hb1 := hb.hear1 hm k (i := m.index) (by omega)
    obtain ⟨e1, e2, e3, e4, e5, _, _⟩ := rAgree_same (rHear1 X k m.index)
    have hlen := rAgree_len hb1
    have hlen : (rAgree (rHear1 X k m.index)).out.length ≤ X.out.length + 7 := hlen
    refine raft_agree_ok H hb1 hc0 (by show X.out.length ≤ _; omega) fun h6 H => nn ?_
    refine ldR_ok (j := 21 + k) H ((rAgree (rHear1 X k m.index)).matc k) (fun lg so => cells_matc _ lg so k hk) ?_
    refine raft_Last_ok H (by rw [e4]; show X.log.length ≤ _; omega) ⟨ldR_ok (j := 21 + k) H _ (fun lg so => cells_matc _ lg so k hk) rfl, ?_⟩
    have el : ((rAgree (rHear1 X k m.index)).log.length : Int) = X.log.length := by rw [e4]; rfl
    rw [el]
    refine brD (fun h7 => ?_) fun h7 => ?_
    · rw [if_pos h7] at hR
      refine ldM (j := 1) H m.from_ rfl ?_
      rw [hf]
      exact raft_to_ok H (hb1.of e1 e2 e3 e4) hk (by omega) fun h8 H => hR _ H.tail
    · rw [if_neg h7] at hR
      exact hR _ H.tail
  · rw [if_neg fun x => by rw [hq.2 x] at hqf; cases hqf] at hR
    refine ldM (j := 7) H m.yes rfl (brNot (fun hy => ?_) fun hy => ?_)
    · rw [if_pos hy] at hR
      have hmk := hm k
      have hnk := hb.nx k
      refine ldM (j := 1) H m.from_ rfl (ldM (j := 4) H m.index rfl (ldM (j := 1) H m.from_ rfl (nn (ixArr k hf hk ?_))))
      refine ldR_ok (j := 14 + k) H (X.next k) (fun lg so => cells_next (rHear0 X k) lg so k hk) (nn ?_)
      refine ldR_ok (j := 21 + k) H (X.matc k) (fun lg so => cells_matc (rHear0 X k) lg so k hk) (nn (ixArr k hf hk ?_))
      have hB : 0 ≤ mn (mx m.index 0) (X.log.length : Int) ∧ mn (mx m.index 0) (X.log.length : Int) ≤ 1024 := by
        unfold mn mx
        repeat' split
        all_goals omega
      rw [w64 (n := X.matc k + 1) (by omega) (by omega), w64 (n := X.next k - 1) (by omega) (by omega)]
      have hw := w64 (n := mn (mx m.index 0) (X.log.length : Int) + 1) (by omega) (by omega)
      unfold mn mx at hw
      refine stR_ok (j := 14 + k) (rHear2 X k m.index) H (by simp; omega) rfl rfl (fun lg so => ?_) fun h5 H => ?_
      · show _ = List.set _ _ (Value.int .i64 (if X.matc k + 1 > (if X.next k - 1 < IntKind.i64.wrap ((if (X.log.length : Int) < (if 0 > m.index then 0 else m.index) then (X.log.length : Int) else if 0 > m.index then 0 else m.index) + 1) then X.next k - 1 else IntKind.i64.wrap ((if (X.log.length : Int) < (if 0 > m.index then 0 else m.index) then (X.log.length : Int) else if 0 > m.index then 0 else m.index) + 1)) then X.matc k + 1 else if X.next k - 1 < IntKind.i64.wrap ((if (X.log.length : Int) < (if 0 > m.index then 0 else m.index) then (X.log.length : Int) else if 0 > m.index then 0 else m.index) + 1) then X.next k - 1 else IntKind.i64.wrap ((if (X.log.length : Int) < (if 0 > m.index then 0 else m.index) then (X.log.length : Int) else if 0 > m.index then 0 else m.index) + 1)))
        rw [hw]
        exact cells_nextS (rHear0 X k) lg so _ k hk
      refine ldM (j := 1) H m.from_ rfl ?_
      rw [hf]
      exact raft_to_ok H (hb.hear2 hm k m.index) hk (by show X.out.length ≤ _; omega) fun h8 H => hR _ H.tail
    · rw [if_neg (by rw [hy]; decide)] at hR
      exact hR _ H.tail
theorem rNewer_same (X : RN) (m : RM) : (rNewer X m).n = X.n ∧ (rNewer X m).id = X.id ∧ (rNewer X m).next = X.next ∧ (rNewer X m).log = X.log ∧ (rNewer X m).matc = X.matc ∧ (rNewer X m).out = X.out ∧ (rNewer X m).commit = X.commit ∧ (rNewer X m).votes = X.votes ∧ (rNewer X m).heard = X.heard := by
  unfold rNewer rFollow
  split <;> exact ⟨rfl, rfl, rfl, rfl, rfl, rfl, rfl, rfl, rfl⟩
theorem raft_Step_ok {R : Heap → Prop} (H : RaftAt h0 h d X F) (hb : RB X) (hc0 : 0 ≤ X.commit) (ht : 0 ≤ X.term ∧ X.term ≤ 1099511627776) (hv : X.votes < 128) (hh : X.heard < 128) (hmt : ∀ t, 0 ≤ X.matc t ∧ X.matc t ≤ 1024) (ho : X.out.length ≤ 600000) (he : m.ents = []) (hk5 : m.kind ≠ 5)
    (hR : ∀ h', RaftAt h0 h' d (rStep X m) F → R h') : C_raft_Node_Step (some ⟨d, 0, none⟩) (m.kind, m.from_, m.to, m.term, m.index, m.logTerm, m.commit, m.yes, ⟨none, 0, 0⟩, ()) h R := by
  refine A_raft_Node_Step ?_
  unfold S_raft_Node_Step
  have hl := hb.l
  have hn7 := hb.n7
  refine RaftAt.alloc (cs := mcells m) H fun h b H => ?_
  unfold rStep at hR
  have ldAll : ∀ {h1 : Heap} {Y : RN} {K : Int → Int → Int → Int → Int → Int → Int → Bool → Sl → Prop}, RaftAt h0 h1 d Y (.blk b 59 (mcells m) :: F) → K m.kind m.from_ m.to m.term m.index m.logTerm m.commit m.yes ⟨none, 0, 0⟩ →
      Ld (.int .i64) h1 (⟨b, 0, none⟩ : Addr) fun (a0 : Int) => Ld (.int .i64) h1 ((⟨b, 0, none⟩ : Addr).add 1) fun (a1 : Int) => Ld (.int .i64) h1 ((⟨b, 0, none⟩ : Addr).add 2) fun (a2 : Int) => Ld (.int .i64) h1 ((⟨b, 0, none⟩ : Addr).add 3) fun (a3 : Int) => Ld (.int .i64) h1 ((⟨b, 0, none⟩ : Addr).add 4) fun (a4 : Int) => Ld (.int .i64) h1 ((⟨b, 0, none⟩ : Addr).add 5) fun (a5 : Int) => Ld (.int .i64) h1 ((⟨b, 0, none⟩ : Addr).add 6) fun (a6 : Int) => Ld .bool h1 ((⟨b, 0, none⟩ : Addr).add 7) fun (a7 : Bool) => Ld .sl h1 ((⟨b, 0, none⟩ : Addr).add 8) fun (a8 : Sl) => K a0 a1 a2 a3 a4 a5 a6 a7 a8 := fun {h1 Y K} H hK =>
    ldM0 H m.kind rfl (ldM (j := 1) H m.from_ rfl (ldM (j := 2) H m.to rfl (ldM (j := 3) H m.term rfl (ldM (j := 4) H m.index rfl (ldM (j := 5) H m.logTerm rfl (ldM (j := 6) H m.commit rfl (ldM (j := 7) H m.yes rfl (ldM (j := 8) H (⟨none, 0, 0⟩ : Sl) rfl hK))))))))
  refine join1 (s1 := .one .bool) (fun (q : Bool) h1 => (q = true ↔ ¬ countsB X m) ∧ RaftAt h0 h1 d X (.blk b 59 (mcells m) :: F)) (fun _ (q : Bool) h1 hJ => ?_) ?_
  rotate_left
  · refine brF (ldAll H (raft_counts_ok H he fun h2 H => ⟨?_, H⟩))
    by_cases hc : countsB X m
    · rw [decide_eq_true hc]; exact ⟨fun x => (by cases x), fun x => absurd hc x⟩
    · rw [decide_eq_false hc]; exact ⟨fun _ => hc, fun _ => rfl⟩
  obtain ⟨hq, H⟩ := hJ
  refine brB (fun hqt => ?_) fun hqf => ?_
  · rw [if_pos (hq.1 hqt)] at hR; exact hR _ H.tail
  have hc : countsB X m := Decidable.byContradiction fun x => by rw [hq.2 x] at hqf; cases hqf
  rw [if_neg fun x => x hc] at hR
  obtain ⟨c1, c2, c3, c4, c5, c6, c7, c8, _, _⟩ := hc
  refine ldM0 H m.kind rfl (br beq_iff_eq (fun k1 => ?_) fun k1 => ?_)
  · rw [if_pos k1] at hR
    exact ldAll H (raft_askPre_ok H (by omega) (by omega) fun h2 H => hR _ H.tail)
  rw [if_neg k1] at hR
  refine br beq_iff_eq (fun k2 => ?_) fun k2 => ?_
  · rw [if_pos k2] at hR
    exact ldAll H (raft_tellPre_ok H hb hc0 ht hv ⟨c3, by omega⟩ (by omega) fun h2 H => hR _ H.tail)
  rw [if_neg k2] at hR
  refine ldM (j := 3) H m.term rfl (nn (ldR_ok (j := 4) H X.term (fun _ _ => rfl) ?_))
  refine join0 (fun h2 => RaftAt h0 h2 d (rNewer X m) (.blk b 59 (mcells m) :: F)) (fun _ h2 H => ?_) ?_
  rotate_left
  · unfold rNewer
    refine brD (fun h3 => ?_) fun h3 => ?_
    · rw [if_pos h3]
      exact ldM (j := 3) H m.term rfl (raft_follow_ok H fun h4 H => H)
    · rw [if_neg h3]; exact H
  obtain ⟨e1, e2, e3, e4, e5, e6, e7, e8, e9⟩ := rNewer_same X m
  have hb2 := hb.of e1 e2 e3 e4
  refine ldM (j := 3) H m.term rfl (nn (ldR_ok (j := 4) H (rNewer X m).term (fun _ _ => rfl) (brD (fun h3 => ?_) fun h3 => ?_)))
  · rw [if_pos h3] at hR
    refine ldM0 H m.kind rfl (br beq_iff_eq (fun k5 => absurd k5 hk5) fun k5 => ?_)
    rw [if_neg k5] at hR
    exact hR _ H.tail
  rw [if_neg h3] at hR
  refine ldM0 H m.kind rfl (br beq_iff_eq (fun k3 => ?_) fun k3 => ?_)
  · rw [if_pos k3] at hR
    exact ldAll H (raft_askVote_ok H (by rw [e4]; omega) (by rw [e6]; omega) fun h2 H => hR _ H.tail)
  rw [if_neg k3] at hR
  refine ldM0 H m.kind rfl (br beq_iff_eq (fun k4 => ?_) fun k4 => ?_)
  · rw [if_pos k4] at hR
    exact ldAll H (raft_tellVote_ok H hb2 (by rw [e7]; exact hc0) (by rw [e8]; exact hv) ⟨c3, by omega⟩ (by rw [e6]; omega) fun h2 H => hR _ H.tail)
  rw [if_neg k4] at hR
  refine ldM0 H m.kind rfl (br beq_iff_eq (fun k5 => absurd k5 hk5) fun k5 => ?_)
  exact ldAll H (raft_hears_ok (k := m.from_.toNat) H hb2 (by rw [e7]; exact hc0) (by rw [e9]; exact hh) (by rw [e5]; exact hmt) (by omega) (by omega) (by rw [e6]; omega) fun h2 H => hR _ H.tail)
end
end Go.Proofs.YtniojdaddolnfaaGreat

/-
  Layer 8 (raft): a new node, what is to be saved, and what the document fixes.
-/
namespace Go.Proofs.YtniojdaddolnfaaGreat
open Go

section
variable {h0 h : Heap} {F L : List Res} {d : Nat} {X : RN}
theorem RaftAt.un (H : RaftAt h0 h d X F) : ∃ L, At h0 h L ∧ ∀ h', At h0 h' L → RaftAt h0 h' d X F := by
  obtain ⟨ty, lg, tl, sl, so, z, hz, H⟩ := H
  exact ⟨_, H, fun h' H => ⟨ty, lg, tl, sl, so, z, hz, H⟩⟩
/-- The terms never fall, from a least one on. -/
def riseR (T : Int) : Int → List RE → Prop
  | _, [] => True
  | a, e :: l => ¬ e.term < a ∧ ¬ e.term > T ∧ e.data.size ≤ 512 ∧ riseR T e.term l
def okS (term vote : Int) (es : List RE) : Prop := riseR term 1 es ∧ 0 ≤ term ∧ term ≤ 1099511627776 ∧ -1 ≤ vote ∧ vote < 7 ∧ es.length ≤ 1024
theorem riseR_take {T : Int} : ∀ {es : List RE} {a : Int} (j : Nat) (hj : j < es.length), (riseR T a (es.take (j + 1)) ↔ riseR T a (es.take j) ∧ ¬ es[j].term < (if j = 0 then a else (es[j - 1]?.map (·.term)).getD 0) ∧ ¬ es[j].term > T ∧ es[j].data.size ≤ 512)
  | e :: l, a, 0, _ => by
    show (_ ∧ _ ∧ _ ∧ True) ↔ True ∧ _ ∧ _ ∧ _
    rw [if_pos rfl]
    simp
  | e :: l, a, j + 1, hj => by
    have ih := riseR_take (T := T) (es := l) (a := e.term) j (by simpa using hj)
    show (_ ∧ _ ∧ _ ∧ riseR T e.term (l.take (j + 1))) ↔ (_ ∧ _ ∧ _ ∧ riseR T e.term (l.take j)) ∧ _
    rw [ih]
    have e1 : (if j + 1 = 0 then a else ((e :: l)[j + 1 - 1]?.map (·.term)).getD 0) = (if j = 0 then e.term else (l[j - 1]?.map (·.term)).getD 0) := by
      rw [if_neg (by omega), Nat.add_sub_cancel]
      cases j with
      | zero => rfl
      | succ i => rw [if_neg (by omega), List.getElem?_cons_succ, Nat.add_sub_cancel]
    rw [e1]
    simp only [List.getElem_cons_succ]
    constructor
    · rintro ⟨h1, h2, h3, h4, h5⟩; exact ⟨⟨h1, h2, h3, h4⟩, h5⟩
    · rintro ⟨⟨h1, h2, h3, h4⟩, h5⟩; exact ⟨h1, h2, h3, h4, h5⟩
theorem riseR_pre {T : Int} : ∀ {es : List RE} {a : Int} (j : Nat), riseR T a es → riseR T a (es.take j)
  | [], _, _, _ => by rw [List.take_nil]; trivial
  | _ :: _, _, 0, _ => trivial
  | e :: l, a, j + 1, h => ⟨h.1, h.2.1, h.2.2.1, riseR_pre j h.2.2.2⟩
def lastOf (a : Int) (es : List RE) (j : Nat) : Int := if j = 0 then a else (es[j - 1]?.map (·.term)).getD 0
theorem lastOf_succ {a : Int} {es : List RE} {j : Nat} (hj : j < es.length) : lastOf a es (j + 1) = es[j].term := by
  unfold lastOf
  rw [if_neg (by omega), Nat.add_sub_cancel, List.getElem?_eq_getElem hj]; rfl
theorem raft_right_ok {term vote : Int} {s : Sl} {es : List RE} {R : Bool → Heap → Prop} (H : At h0 h L) (A : RdS h0 2 s (eRE.fl es)) (hl : es.length ≤ 1000000) (hR : ∀ q h', (q = true ↔ okS term vote es) → At h0 h' L → R q h') : C_raft_right (term, vote, s, ()) h R := by
  refine A_raft_right ?_
  unfold S_raft_right
  have hn := rdn A
  refine allocAt (cs := [.int .i64 term, .int .i64 vote, .slice s.a s.n s.c]) H fun h1 b H => ?_
  repeat (first | with_reducible refine nn ?_ | with_reducible refine let_ ?_ | with_reducible refine brSome ?_ | with_reducible refine brF ?_ | with_reducible refine brT ?_ | ((with_reducible apply ldAt H 0); exact rfl; exact rfl) | ((with_reducible apply ldAt0 H 0); exact rfl; exact rfl) | ((with_reducible apply stAt H 0); exact rfl; exact rfl; intro h H) | ((with_reducible apply stAt0 H 0); exact rfl; exact rfl; intro h H) | ((with_reducible refine ⟨?_, ?_⟩); first | ((with_reducible apply ldAt H 0); exact rfl; exact rfl; exact rfl) | ((with_reducible apply ldAt0 H 0); exact rfl; exact rfl; exact rfl)))
  have no : ∀ {h' : Heap} {q : Res}, At h0 h' (q :: L) → ¬ okS term vote es → R false h' := fun H2 hno => hR _ _ ⟨fun x => (by cases x), fun x => absurd x hno⟩ H2.tail
  refine loop2 (s1 := .one (.int .i64)) (s2 := .one (.int .i64)) (fun (a y : Int) h2 => ∃ j : Nat, y = j ∧ j ≤ es.length ∧ a = lastOf 1 es j ∧ riseR term 1 (es.take j) ∧ At h0 h2 (.blk b 46 [.int .i64 term, .int .i64 vote, .slice s.a s.n s.c] :: L)) (fun _ (y : Int) _ => (es.length - y).toNat)
    ⟨0, rfl, Nat.zero_le _, rfl, trivial, H⟩ fun _ (a y : Int) h2 hI => ?_
  obtain ⟨j, rfl, hj, rfl, hri, H⟩ := hI
  refine brD (fun hc => ?_) fun hc => ?_
  · have hj2 : j < es.length := by omega
    have A2 := H.arg A
    refine ixR A2 j rfl hj2 fun e he => ?_
    refine ldR0 A2 he hj2 es[j].term rfl (ldR (j := 1) A2 he hj2 es[j].data rfl ?_)
    repeat (first | with_reducible refine nn ?_ | with_reducible refine let_ ?_ | with_reducible refine brSome ?_ | with_reducible refine brF ?_ | with_reducible refine brT ?_ | ((with_reducible apply ldAt H 0); exact rfl; exact rfl) | ((with_reducible apply ldAt0 H 0); exact rfl; exact rfl) | ((with_reducible apply ldAt H 1); exact rfl; exact rfl) | ((with_reducible apply ldAt0 H 1); exact rfl; exact rfl) | ((with_reducible apply stAt H 0); exact rfl; exact rfl; intro h H) | ((with_reducible apply stAt0 H 0); exact rfl; exact rfl; intro h H) | ((with_reducible apply stAt H 1); exact rfl; exact rfl; intro h H) | ((with_reducible apply stAt0 H 1); exact rfl; exact rfl; intro h H) | ((with_reducible apply allocAt H); intro h b H) | ((with_reducible refine ⟨?_, ?_⟩); first | ((with_reducible apply ldAt H 0); exact rfl; exact rfl; exact rfl) | ((with_reducible apply ldAt0 H 0); exact rfl; exact rfl; exact rfl) | ((with_reducible apply ldAt H 1); exact rfl; exact rfl; exact rfl) | ((with_reducible apply ldAt0 H 1); exact rfl; exact rfl; exact rfl)))
    have hta := riseR_take (T := term) (a := 1) j hj2
    have bad : ¬ (¬ es[j].term < lastOf 1 es j ∧ ¬ es[j].term > term ∧ es[j].data.size ≤ 512) → ¬ okS term vote es := fun hb hx => hb (hta.1 (riseR_pre _ hx.1)).2
    refine brD (fun h3 => no H.tail (bad fun x => x.1 h3)) fun h3 => ?_
    repeat (first | with_reducible refine nn ?_ | with_reducible refine let_ ?_ | with_reducible refine brSome ?_ | with_reducible refine brF ?_ | with_reducible refine brT ?_ | ((with_reducible apply ldAt H 0); exact rfl; exact rfl) | ((with_reducible apply ldAt0 H 0); exact rfl; exact rfl) | ((with_reducible apply ldAt H 1); exact rfl; exact rfl) | ((with_reducible apply ldAt0 H 1); exact rfl; exact rfl) | ((with_reducible apply stAt H 0); exact rfl; exact rfl; intro h H) | ((with_reducible apply stAt0 H 0); exact rfl; exact rfl; intro h H) | ((with_reducible apply stAt H 1); exact rfl; exact rfl; intro h H) | ((with_reducible apply stAt0 H 1); exact rfl; exact rfl; intro h H) | ((with_reducible apply allocAt H); intro h b H) | ((with_reducible refine ⟨?_, ?_⟩); first | ((with_reducible apply ldAt H 0); exact rfl; exact rfl; exact rfl) | ((with_reducible apply ldAt0 H 0); exact rfl; exact rfl; exact rfl) | ((with_reducible apply ldAt H 1); exact rfl; exact rfl; exact rfl) | ((with_reducible apply ldAt0 H 1); exact rfl; exact rfl; exact rfl)))
    refine brD (fun h4 => no H.tail (bad fun x => x.2.1 h4)) fun h4 => ?_
    repeat (first | with_reducible refine nn ?_ | with_reducible refine let_ ?_ | with_reducible refine brSome ?_ | with_reducible refine brF ?_ | with_reducible refine brT ?_ | ((with_reducible apply ldAt H 0); exact rfl; exact rfl) | ((with_reducible apply ldAt0 H 0); exact rfl; exact rfl) | ((with_reducible apply ldAt H 1); exact rfl; exact rfl) | ((with_reducible apply ldAt0 H 1); exact rfl; exact rfl) | ((with_reducible apply stAt H 0); exact rfl; exact rfl; intro h H) | ((with_reducible apply stAt0 H 0); exact rfl; exact rfl; intro h H) | ((with_reducible apply stAt H 1); exact rfl; exact rfl; intro h H) | ((with_reducible apply stAt0 H 1); exact rfl; exact rfl; intro h H) | ((with_reducible apply allocAt H); intro h b H) | ((with_reducible refine ⟨?_, ?_⟩); first | ((with_reducible apply ldAt H 0); exact rfl; exact rfl; exact rfl) | ((with_reducible apply ldAt0 H 0); exact rfl; exact rfl; exact rfl) | ((with_reducible apply ldAt H 1); exact rfl; exact rfl; exact rfl) | ((with_reducible apply ldAt0 H 1); exact rfl; exact rfl; exact rfl)))
    refine brD (fun h5 => no H.tail (bad fun x => by have := x.2.2; omega)) fun h5 => ?_
    repeat (first | with_reducible refine nn ?_ | with_reducible refine let_ ?_ | with_reducible refine brSome ?_ | with_reducible refine brF ?_ | with_reducible refine brT ?_ | ((with_reducible apply ldAt H 0); exact rfl; exact rfl) | ((with_reducible apply ldAt0 H 0); exact rfl; exact rfl) | ((with_reducible apply ldAt H 1); exact rfl; exact rfl) | ((with_reducible apply ldAt0 H 1); exact rfl; exact rfl) | ((with_reducible apply stAt H 0); exact rfl; exact rfl; intro h H) | ((with_reducible apply stAt0 H 0); exact rfl; exact rfl; intro h H) | ((with_reducible apply stAt H 1); exact rfl; exact rfl; intro h H) | ((with_reducible apply stAt0 H 1); exact rfl; exact rfl; intro h H) | ((with_reducible apply allocAt H); intro h b H) | ((with_reducible refine ⟨?_, ?_⟩); first | ((with_reducible apply ldAt H 0); exact rfl; exact rfl; exact rfl) | ((with_reducible apply ldAt0 H 0); exact rfl; exact rfl; exact rfl) | ((with_reducible apply ldAt H 1); exact rfl; exact rfl; exact rfl) | ((with_reducible apply ldAt0 H 1); exact rfl; exact rfl; exact rfl)))
    rw [w64 (by omega) (by omega)]
    exact ⟨⟨j + 1, by omega, by omega, (lastOf_succ hj2).symm, hta.2 ⟨hri, h3, h4, by omega⟩, H.tail⟩, by omega⟩
  · have hjl : j = es.length := by omega
    subst hjl
    rw [List.take_length] at hri
    repeat (first | with_reducible refine nn ?_ | with_reducible refine let_ ?_ | with_reducible refine brSome ?_ | with_reducible refine brF ?_ | with_reducible refine brT ?_ | ((with_reducible apply ldAt H 0); exact rfl; exact rfl) | ((with_reducible apply ldAt0 H 0); exact rfl; exact rfl) | ((with_reducible apply stAt H 0); exact rfl; exact rfl; intro h H) | ((with_reducible apply stAt0 H 0); exact rfl; exact rfl; intro h H) | ((with_reducible refine ⟨?_, ?_⟩); first | ((with_reducible apply ldAt H 0); exact rfl; exact rfl; exact rfl) | ((with_reducible apply ldAt0 H 0); exact rfl; exact rfl; exact rfl)))
    refine brD (fun h3 => ?_) fun h3 => no H fun x => h3 x.2.1
    repeat (first | with_reducible refine nn ?_ | with_reducible refine let_ ?_ | with_reducible refine brSome ?_ | with_reducible refine brF ?_ | with_reducible refine brT ?_ | ((with_reducible apply ldAt H 0); exact rfl; exact rfl) | ((with_reducible apply ldAt0 H 0); exact rfl; exact rfl) | ((with_reducible apply stAt H 0); exact rfl; exact rfl; intro h H) | ((with_reducible apply stAt0 H 0); exact rfl; exact rfl; intro h H) | ((with_reducible refine ⟨?_, ?_⟩); first | ((with_reducible apply ldAt H 0); exact rfl; exact rfl; exact rfl) | ((with_reducible apply ldAt0 H 0); exact rfl; exact rfl; exact rfl)))
    refine brD (fun h4 => ?_) fun h4 => no H fun x => h4 x.2.2.1
    repeat (first | with_reducible refine nn ?_ | with_reducible refine let_ ?_ | with_reducible refine brSome ?_ | with_reducible refine brF ?_ | with_reducible refine brT ?_ | ((with_reducible apply ldAt H 0); exact rfl; exact rfl) | ((with_reducible apply ldAt0 H 0); exact rfl; exact rfl) | ((with_reducible apply stAt H 0); exact rfl; exact rfl; intro h H) | ((with_reducible apply stAt0 H 0); exact rfl; exact rfl; intro h H) | ((with_reducible refine ⟨?_, ?_⟩); first | ((with_reducible apply ldAt H 0); exact rfl; exact rfl; exact rfl) | ((with_reducible apply ldAt0 H 0); exact rfl; exact rfl; exact rfl)))
    refine brD (fun h5 => ?_) fun h5 => no H fun x => h5 x.2.2.2.1
    repeat (first | with_reducible refine nn ?_ | with_reducible refine let_ ?_ | with_reducible refine brSome ?_ | with_reducible refine brF ?_ | with_reducible refine brT ?_ | ((with_reducible apply ldAt H 0); exact rfl; exact rfl) | ((with_reducible apply ldAt0 H 0); exact rfl; exact rfl) | ((with_reducible apply stAt H 0); exact rfl; exact rfl; intro h H) | ((with_reducible apply stAt0 H 0); exact rfl; exact rfl; intro h H) | ((with_reducible refine ⟨?_, ?_⟩); first | ((with_reducible apply ldAt H 0); exact rfl; exact rfl; exact rfl) | ((with_reducible apply ldAt0 H 0); exact rfl; exact rfl; exact rfl)))
    refine brD (fun h6 => ?_) fun h6 => no H fun x => h6 x.2.2.2.2.1
    repeat (first | with_reducible refine nn ?_ | with_reducible refine let_ ?_ | with_reducible refine brSome ?_ | with_reducible refine brF ?_ | with_reducible refine brT ?_ | ((with_reducible apply ldAt H 0); exact rfl; exact rfl) | ((with_reducible apply ldAt0 H 0); exact rfl; exact rfl) | ((with_reducible apply stAt H 0); exact rfl; exact rfl; intro h H) | ((with_reducible apply stAt0 H 0); exact rfl; exact rfl; intro h H) | ((with_reducible refine ⟨?_, ?_⟩); first | ((with_reducible apply ldAt H 0); exact rfl; exact rfl; exact rfl) | ((with_reducible apply ldAt0 H 0); exact rfl; exact rfl; exact rfl)))
    refine hR _ _ ?_ H.tail
    rw [decide_eq_true_iff]
    exact ⟨fun x => ⟨hri, h3, h4, h5, h6, by omega⟩, fun x => by have := x.2.2.2.2.2; omega⟩
theorem raft_New_ok {id n elect beat term vote : Int} {s : Sl} {es : List RE} {R : Option Addr → Int → Heap → Prop} (H : At h0 h L) (A : RdS h0 2 s (eRE.fl es)) (hl : es.length ≤ 100000)
    (hbad : (n < 1 ∨ n > 7 ∨ id < 0 ∨ id ≥ n ∨ elect < 1 ∨ elect > 1000 ∨ beat < 1 ∨ beat > elect) → ∀ h', At h0 h' L → R none 1 h') (hno : ¬ okS term vote es → ∀ h', At h0 h' L → R none 2 h')
    (hR : okS term vote es → ¬ (n < 1 ∨ n > 7 ∨ id < 0 ∨ id ≥ n ∨ elect < 1 ∨ elect > 1000 ∨ beat < 1 ∨ beat > elect) → ∀ h' d, RaftAt h0 h' d (rNew id n elect beat term vote es) L → R (some ⟨d, 0, none⟩) 0 h') : C_raft_New id n elect beat (term, vote, s, ()) h R := by
  refine A_raft_New ?_
  unfold S_raft_New
  refine allocAt (cs := [.int .i64 term, .int .i64 vote, .slice s.a s.n s.c]) H fun h1 b H => ?_
  refine join0 (fun h2 => (okS term vote es ∧ ¬ (n < 1 ∨ n > 7 ∨ id < 0 ∨ id ≥ n ∨ elect < 1 ∨ elect > 1000 ∨ beat < 1 ∨ beat > elect)) ∧ At h0 h2 (.blk b 46 [.int .i64 term, .int .i64 vote, .slice s.a s.n s.c] :: L)) (fun _ h2 hJ => ?_) ?_
  · obtain ⟨hok, H⟩ := hJ
    repeat (first | with_reducible refine nn ?_ | with_reducible refine let_ ?_ | with_reducible refine brSome ?_ | with_reducible refine brF ?_ | with_reducible refine brT ?_ | ((with_reducible apply ldAt H 0); exact rfl; exact rfl) | ((with_reducible apply ldAt0 H 0); exact rfl; exact rfl) | ((with_reducible apply stAt H 0); exact rfl; exact rfl; intro h H) | ((with_reducible apply stAt0 H 0); exact rfl; exact rfl; intro h H) | ((with_reducible refine ⟨?_, ?_⟩); first | ((with_reducible apply ldAt H 0); exact rfl; exact rfl; exact rfl) | ((with_reducible apply ldAt0 H 0); exact rfl; exact rfl; exact rfl)))
    refine log_New_ok H (H.arg A) hl fun lg sl h3 H => ?_
    repeat (first | with_reducible refine nn ?_ | with_reducible refine let_ ?_ | with_reducible refine brSome ?_ | with_reducible refine brF ?_ | with_reducible refine brT ?_ | ((with_reducible apply ldAt H 2); exact rfl; exact rfl) | ((with_reducible apply ldAt0 H 2); exact rfl; exact rfl) | ((with_reducible apply stAt H 2); exact rfl; exact rfl; intro h H) | ((with_reducible apply stAt0 H 2); exact rfl; exact rfl; intro h H) | ((with_reducible refine ⟨?_, ?_⟩); first | ((with_reducible apply ldAt H 2); exact rfl; exact rfl; exact rfl) | ((with_reducible apply ldAt0 H 2); exact rfl; exact rfl; exact rfl)))
    refine allocAt (cs := (rNew id n elect beat term vote es).cells lg ⟨none, 0, 0⟩) ((H.del 2).nil 9) fun h4 d H => ?_
    refine hR hok.1 hok.2 h4 d ⟨73, lg, 101, sl, ⟨none, 0, 0⟩, [], rfl, ?_⟩
    rw [show entsR [] = [] from rfl, List.append_nil]
    have H := H.mv 2 2
    exact H.mv 2 1
  · refine brD (fun h3 => hbad (by omega) _ H.tail) fun h3 => brD (fun h4 => hbad (by omega) _ H.tail) fun h4 => brD (fun h5 => hbad (by omega) _ H.tail) fun h5 => brD (fun h6 => hbad (by omega) _ H.tail) fun h6 => ?_
    refine brD (fun h7 => hbad (by omega) _ H.tail) fun h7 => brD (fun h8 => hbad (by omega) _ H.tail) fun h8 => brD (fun h9 => hbad (by omega) _ H.tail) fun h9 => brD (fun h10 => hbad (by omega) _ H.tail) fun h10 => ?_
    repeat (first | with_reducible refine nn ?_ | with_reducible refine let_ ?_ | with_reducible refine brSome ?_ | with_reducible refine brF ?_ | with_reducible refine brT ?_ | ((with_reducible apply ldAt H 0); exact rfl; exact rfl) | ((with_reducible apply ldAt0 H 0); exact rfl; exact rfl) | ((with_reducible apply stAt H 0); exact rfl; exact rfl; intro h H) | ((with_reducible apply stAt0 H 0); exact rfl; exact rfl; intro h H) | ((with_reducible refine ⟨?_, ?_⟩); first | ((with_reducible apply ldAt H 0); exact rfl; exact rfl; exact rfl) | ((with_reducible apply ldAt0 H 0); exact rfl; exact rfl; exact rfl)))
    refine raft_right_ok H A (by omega) fun q h2 hq H => brNot (fun hqf => hno (fun x => by rw [hq.2 x] at hqf; cases hqf) _ H.tail) fun hqt => ⟨⟨hq.1 hqt, by omega⟩, H⟩
/-- What is to be saved. -/
theorem raft_Save_ok {R : KL [.bool, .int .i64, .int .i64, .int .i64, .sl] → Bool → Heap → Prop} (H : RaftAt h0 h d X F) (hl : X.log.length ≤ 100000) (hf : 0 ≤ X.from_ ∧ X.from_ ≤ 2000)
    (h1 : X.hard = false → X.from_ = 0 → ∀ h', RaftAt h0 h' d X F → R (false, 0, 0, 0, ⟨none, 0, 0⟩, ()) false h')
    (h2 : ¬ (X.hard = false ∧ X.from_ = 0) → ∀ r h', RaftAt h0 h' d { X with hard := false, from_ := 0 } (.own r 2 (eRE.fl (if X.from_ > 0 then fromL X.log X.from_ 1024 else [])) :: F) → R (X.hard, X.term, X.vote, X.from_, r, ()) true h') : C_raft_Node_Save (some ⟨d, 0, none⟩) h R := by
  refine A_raft_Node_Save ?_
  unfold S_raft_Node_Save
  refine RaftAt.alloc (cs := [.bool false, .int .i64 0, .int .i64 0, .int .i64 0, .slice none 0 0]) H fun h b H => ?_
  refine join1 (s1 := .one .bool) (fun (q : Bool) h2 => (q = true ↔ (X.hard = false ∧ X.from_ = 0)) ∧ h2 = h) (fun _ (q : Bool) h3 hJ => ?_) ?_
  rotate_left
  · refine brF (nn (ldR_ok (j := 29) H X.hard (fun _ _ => rfl) (brNot (fun hh => nn (ldR_ok (j := 30) H X.from_ (fun _ _ => rfl) ⟨?_, rfl⟩)) fun hh => ⟨⟨fun x => (by cases x), fun x => by rw [hh] at x; cases x.1⟩, rfl⟩)))
    rw [beq_iff_eq]
    exact ⟨fun x => ⟨hh, x⟩, fun x => x.2⟩
  obtain ⟨hq, rfl⟩ := hJ
  obtain ⟨ty, lg, tl, sl, so, z, hz, H⟩ := H
  refine brB (fun hqt => ?_) fun hqf => ?_
  · repeat (first | with_reducible refine nn ?_ | with_reducible refine let_ ?_ | with_reducible refine brSome ?_ | with_reducible refine brF ?_ | with_reducible refine brT ?_ | ((with_reducible apply ldAt H 4); exact rfl; exact rfl) | ((with_reducible apply ldAt0 H 4); exact rfl; exact rfl) | ((with_reducible apply stAt H 4); exact rfl; exact rfl; intro h H) | ((with_reducible apply stAt0 H 4); exact rfl; exact rfl; intro h H) | ((with_reducible refine ⟨?_, ?_⟩); first | ((with_reducible apply ldAt H 4); exact rfl; exact rfl; exact rfl) | ((with_reducible apply ldAt0 H 4); exact rfl; exact rfl; exact rfl)))
    (try refine ldAt H 4 rfl (⟨none, 0, 0⟩ : Sl) rfl ?_)
    exact h1 (hq.1 hqt).1 (hq.1 hqt).2 _ ⟨ty, lg, tl, sl, so, z, hz, H.del 4⟩
  · have hno : ¬ (X.hard = false ∧ X.from_ = 0) := fun x => by rw [hq.2 x] at hqf; cases hqf
    have h2 := h2 hno
    repeat (first | with_reducible refine nn ?_ | with_reducible refine let_ ?_ | with_reducible refine brSome ?_ | with_reducible refine brF ?_ | with_reducible refine brT ?_ | ((with_reducible apply ldAt H 0); exact rfl; exact rfl) | ((with_reducible apply ldAt0 H 0); exact rfl; exact rfl) | ((with_reducible apply stAt H 0); exact rfl; exact rfl; intro h H) | ((with_reducible apply stAt0 H 0); exact rfl; exact rfl; intro h H) | ((with_reducible refine ⟨?_, ?_⟩); first | ((with_reducible apply ldAt H 0); exact rfl; exact rfl; exact rfl) | ((with_reducible apply ldAt0 H 0); exact rfl; exact rfl; exact rfl)))
    refine allocAt (cs := [.bool false, .int .i64 0, .int .i64 0, .int .i64 0, .slice none 0 0]) H fun h b2 H => ?_
    repeat (first | with_reducible refine nn ?_ | with_reducible refine let_ ?_ | with_reducible refine brSome ?_ | with_reducible refine brF ?_ | with_reducible refine brT ?_ | ((with_reducible apply ldAt H 0); exact rfl; exact rfl) | ((with_reducible apply ldAt0 H 0); exact rfl; exact rfl) | ((with_reducible apply ldAt H 1); exact rfl; exact rfl) | ((with_reducible apply ldAt0 H 1); exact rfl; exact rfl) | ((with_reducible apply stAt H 0); exact rfl; exact rfl; intro h H) | ((with_reducible apply stAt0 H 0); exact rfl; exact rfl; intro h H) | ((with_reducible apply stAt H 1); exact rfl; exact rfl; intro h H) | ((with_reducible apply stAt0 H 1); exact rfl; exact rfl; intro h H) | ((with_reducible refine ⟨?_, ?_⟩); first | ((with_reducible apply ldAt H 0); exact rfl; exact rfl; exact rfl) | ((with_reducible apply ldAt0 H 0); exact rfl; exact rfl; exact rfl) | ((with_reducible apply ldAt H 1); exact rfl; exact rfl; exact rfl) | ((with_reducible apply ldAt0 H 1); exact rfl; exact rfl; exact rfl)))
    refine join0 (fun h5 => ∃ r, At h0 h5 (.own r 2 (eRE.fl (if X.from_ > 0 then fromL X.log X.from_ 1024 else [])) :: .blk b2 123 [.bool X.hard, .int .i64 X.term, .int .i64 X.vote, .int .i64 X.from_, .slice r.a r.n r.c] :: (fourL d ty lg tl sl so X z ++ (.blk b 123 [.bool false, .int .i64 0, .int .i64 0, .int .i64 0, .slice none 0 0] :: (F ++ entsR z))))) (fun _ h5 hJ => ?_) ?_
    · obtain ⟨r, H⟩ := hJ
      repeat (first | with_reducible refine nn ?_ | with_reducible refine let_ ?_ | with_reducible refine brSome ?_ | with_reducible refine brF ?_ | with_reducible refine brT ?_ | ((with_reducible apply ldAt H 1); exact rfl; exact rfl) | ((with_reducible apply ldAt0 H 1); exact rfl; exact rfl) | ((with_reducible apply ldAt H 2); exact rfl; exact rfl) | ((with_reducible apply ldAt0 H 2); exact rfl; exact rfl) | ((with_reducible apply ldAt H 6); exact rfl; exact rfl) | ((with_reducible apply ldAt0 H 6); exact rfl; exact rfl) | ((with_reducible apply stAt H 1); exact rfl; exact rfl; intro h H) | ((with_reducible apply stAt0 H 1); exact rfl; exact rfl; intro h H) | ((with_reducible apply stAt H 2); exact rfl; exact rfl; intro h H) | ((with_reducible apply stAt0 H 2); exact rfl; exact rfl; intro h H) | ((with_reducible apply stAt H 6); exact rfl; exact rfl; intro h H) | ((with_reducible apply stAt0 H 6); exact rfl; exact rfl; intro h H) | ((with_reducible refine ⟨?_, ?_⟩); first | ((with_reducible apply ldAt H 1); exact rfl; exact rfl; exact rfl) | ((with_reducible apply ldAt0 H 1); exact rfl; exact rfl; exact rfl) | ((with_reducible apply ldAt H 2); exact rfl; exact rfl; exact rfl) | ((with_reducible apply ldAt0 H 2); exact rfl; exact rfl; exact rfl) | ((with_reducible apply ldAt H 6); exact rfl; exact rfl; exact rfl) | ((with_reducible apply ldAt0 H 6); exact rfl; exact rfl; exact rfl)))
      exact h2 r _ ⟨ty, lg, tl, sl, so, z, hz, (((H.del 6).del 1).mv 1 4)⟩
    · refine brD (fun hp => ?_) fun hp => ?_
      · rw [if_pos hp]
        repeat (first | with_reducible refine nn ?_ | with_reducible refine let_ ?_ | with_reducible refine brSome ?_ | with_reducible refine brF ?_ | with_reducible refine brT ?_ | ((with_reducible apply ldAt H 1); exact rfl; exact rfl) | ((with_reducible apply ldAt0 H 1); exact rfl; exact rfl) | ((with_reducible apply stAt H 1); exact rfl; exact rfl; intro h H) | ((with_reducible apply stAt0 H 1); exact rfl; exact rfl; intro h H) | ((with_reducible refine ⟨?_, ?_⟩); first | ((with_reducible apply ldAt H 1); exact rfl; exact rfl; exact rfl) | ((with_reducible apply ldAt0 H 1); exact rfl; exact rfl; exact rfl)))
        refine log_From_ok H 2 rfl 3 rfl hl (by omega) (by omega) fun r h H => ?_
        repeat (first | with_reducible refine nn ?_ | with_reducible refine let_ ?_ | with_reducible refine brSome ?_ | with_reducible refine brF ?_ | with_reducible refine brT ?_ | ((with_reducible apply ldAt H 1); exact rfl; exact rfl) | ((with_reducible apply ldAt0 H 1); exact rfl; exact rfl) | ((with_reducible apply ldAt H 2); exact rfl; exact rfl) | ((with_reducible apply ldAt0 H 2); exact rfl; exact rfl) | ((with_reducible apply stAt H 1); exact rfl; exact rfl; intro h H) | ((with_reducible apply stAt0 H 1); exact rfl; exact rfl; intro h H) | ((with_reducible apply stAt H 2); exact rfl; exact rfl; intro h H) | ((with_reducible apply stAt0 H 2); exact rfl; exact rfl; intro h H) | ((with_reducible refine ⟨?_, ?_⟩); first | ((with_reducible apply ldAt H 1); exact rfl; exact rfl; exact rfl) | ((with_reducible apply ldAt0 H 1); exact rfl; exact rfl; exact rfl) | ((with_reducible apply ldAt H 2); exact rfl; exact rfl; exact rfl) | ((with_reducible apply ldAt0 H 2); exact rfl; exact rfl; exact rfl)))
        exact ⟨r, H⟩
      · have h0' : X.from_ = 0 := by omega
        rw [if_neg hp]
        refine ⟨⟨none, 0, 0⟩, ?_⟩
        rw [h0']
        exact H.nil 2
end
end Go.Proofs.YtniojdaddolnfaaGreat

/-
  Layer 7's log: falls, known, Put, over a row of things.
-/
namespace Go.Proofs.YtniojdaddolnfaaGreat
open Go

section
variable {h0 h : Heap} {L G : List Res} {lg : Nat} {t : TypeId} {sl : Sl} {es : List RE}
theorem falls_At {tm : Int} {x : Sl} {ys : List RE} {R : Bool → Heap → Prop} (A : RdS h 2 x (eRE.fl ys)) (hlen : ys.length ≤ 1000000) (hR : ∀ h', Ext h.size h h' → R (fallsR tm ys) h') : C_log_falls tm x h R := by
  refine A_log_falls ?_
  unfold S_log_falls
  have hxn := rdn A
  refine loop2 (s1 := .one (.int .i64)) (s2 := .one (.int .i64)) (fun (t1 i : Int) h1 => ∃ k : Nat, k ≤ ys.length ∧ i = k ∧ fallsR tm ys = fallsR t1 (ys.drop k) ∧ Ext h.size h h1) (fun _ (i : Int) _ => (ys.length - i).toNat) ⟨0, Nat.zero_le _, rfl, rfl, Ext.refl _ _⟩ fun _ (t1 i : Int) h1 hI => ?_
  obtain ⟨k, hk, rfl, hf, he⟩ := hI
  refine brD (fun hc => ?_) fun hc => ?_
  · have hk2 : k < ys.length := by omega
    have A1 := A.ext' he
    refine ixR A1 k rfl hk2 fun e hel => ldR0 A1 hel hk2 ys[k].term rfl (ldR (j := 1) A1 hel hk2 ys[k].data rfl ?_)
    refine alloc (cs := [.int .i64 0, .string ⟨#[]⟩]) fun h2 b2 e2 z2 => ?_
    refine stB b2 (by simp) fun h3 b3 u3 z3 => stF b3 (by simp) fun h4 b4 u4 z4 => ?_
    have E4 : Ext h.size h h4 := he.trans (((e2.mono he.1).trans (u3.ext1 he.1 (by have := he.1; omega))).trans (u4.ext1 he.1 (by have := he.1; omega)))
    have hdr : ys.drop k = ys[k] :: ys.drop (k + 1) := List.drop_eq_getElem_cons hk2
    rw [hdr, fallsR] at hf
    refine ldB b4 ys[k].term rfl (brD (fun hlt => ?_) fun hlt => ldB b4 ys[k].term rfl ?_)
    · rw [if_pos hlt] at hf
      rw [← hf]
      exact hR h4 E4
    · rw [if_neg hlt] at hf
      rw [w64 (by omega) (by omega)]
      exact ⟨⟨k + 1, by omega, by omega, hf, E4⟩, by omega⟩
  · have : k = ys.length := by omega
    subst this
    rw [List.drop_length, fallsR] at hf
    rw [← hf]
    exact hR h1 he
theorem knownR_nil (l : List RE) : knownR l [] = 0 := by cases l <;> rfl
theorem known_At {index : Int} {x : Sl} {ys : List RE} {R : Int → Heap → Prop} (H : At h0 h (.blk lg t [.slice sl.a sl.n sl.c] :: .own sl 2 (eRE.fl es) :: G)) (hl : es.length ≤ 100000) (idx : Nat) (hi : index = (idx : Int)) (hidx : idx ≤ es.length) (A : RdS h 2 x (eRE.fl ys)) (hlen : ys.length ≤ 100000)
    (hR : ∀ h', Ext h.size h h' → R (knownR (es.drop idx) ys : Nat) h') : C_log_Log_known (some ⟨lg, 0, none⟩) index x h R := by
  refine A_log_Log_known ?_
  unfold S_log_Log_known
  have hxn := rdn A
  subst hi
  refine loop1 (s1 := .one (.int .i64)) (fun (i : Int) h1 => ∃ k : Nat, k ≤ ys.length ∧ i = k ∧ knownR (es.drop idx) ys = k + knownR (es.drop (idx + k)) (ys.drop k) ∧ Ext h.size h h1) (fun (i : Int) _ => (ys.length - i).toNat) ⟨0, Nat.zero_le _, rfl, by simp, Ext.refl _ _⟩ fun _ (i : Int) h1 hI => ?_
  obtain ⟨k, hk, rfl, hf, he⟩ := hI
  refine brD (fun hc => ?_) fun hc => ?_
  · have hk2 : k < ys.length := by omega
    have A1 := A.ext' he
    refine ixR A1 k rfl hk2 fun e hel => ldR0 A1 hel hk2 ys[k].term rfl (ldR (j := 1) A1 hel hk2 ys[k].data rfl ?_)
    refine alloc (cs := [.int .i64 0, .string ⟨#[]⟩]) fun h2 b2 e2 z2 => ?_
    refine stB b2 (by simp) fun h3 b3 u3 z3 => stF b3 (by simp) fun h4 b4 u4 z4 => ?_
    have hle := he.1
    have E4 : Ext h.size h h4 := he.trans (((e2.mono hle).trans (u3.ext1 hle (by omega))).trans (u4.ext1 hle (by omega)))
    have hdr : ys.drop k = ys[k] :: ys.drop (k + 1) := List.drop_eq_getElem_cons hk2
    rw [w64 (n := (idx : Int) + 1) (by omega) (by omega), w64 (n := (idx : Int) + 1 + k) (by omega) (by omega)]
    refine log_Term_ok (H.ext' E4) 0 rfl 1 rfl hl ?_
    by_cases hb : es.length ≤ idx + k
    · have e1 : termAt es ((idx : Int) + 1 + k) = (0, false) := by unfold termAt; rw [if_pos (by omega)]
      rw [e1]
      refine brY rfl ?_
      have : es.drop (idx + k) = [] := List.drop_of_length_le (by omega)
      rw [this, hdr] at hf
      have h0 : knownR ([] : List RE) (ys[k] :: ys.drop (k + 1)) = 0 := rfl
      rw [h0, Nat.add_zero] at hf
      have := hR h4 E4
      rwa [hf] at this
    · have hj : idx + k < es.length := by omega
      have e1 : termAt es ((idx : Int) + 1 + k) = (es[idx + k].term, true) := by
        unfold termAt
        rw [if_neg (by omega), if_neg (by omega), show ((idx : Int) + 1 + k).toNat - 1 = idx + k by omega, List.getElem?_eq_getElem hj]
        rfl
      rw [e1]
      have hde : es.drop (idx + k) = es[idx + k] :: es.drop (idx + k + 1) := List.drop_eq_getElem_cons hj
      rw [hde, hdr, knownR] at hf
      refine brN rfl (ldB b4 ys[k].term rfl (brB (fun hne => ?_) fun hne => ?_))
      · rw [if_neg (by simpa using hne), Nat.add_zero] at hf
        have := hR h4 E4
        rwa [hf] at this
      · rw [if_pos (by simpa using hne)] at hf
        rw [w64 (by omega) (by omega)]
        exact ⟨⟨k + 1, by omega, by omega, by rw [hf, ← Nat.add_assoc idx k 1]; omega, E4⟩, by omega⟩
  · have : k = ys.length := by omega
    subst this
    rw [List.drop_length, knownR_nil, Nat.add_zero] at hf
    have := hR h1 he
    rwa [hf, ← hxn] at this
theorem putR_err {es ys : List RE} {index term : Int} (h : (putR es index term ys).2.2 ≠ 0) : (putR es index term ys).1 = es := by
  refine putR_old fun x => h ?_
  unfold putR at x ⊢
  split
  · rename_i c; rw [if_pos c] at x; exact absurd x (show ¬ (0 : Int) > 0 by decide)
  · rename_i c1
    rw [if_neg c1] at x
    split
    · rename_i c; rw [if_pos c] at x; exact absurd x (show ¬ (0 : Int) > 0 by decide)
    · rename_i c2
      rw [if_neg c2] at x
      split
      · rename_i c; rw [if_pos c] at x; exact absurd x (show ¬ (0 : Int) > 0 by decide)
      · rename_i c3
        rw [if_neg c3] at x
        split
        · rfl
        · rename_i c4
          rw [if_neg c4] at x
          split
          · rename_i c; rw [if_pos c] at x; exact absurd x (show ¬ (0 : Int) > 0 by decide)
          · rfl
theorem log_Put_At {index term : Int} {x : Sl} {ys : List RE} {R : Int → Int → Heap → Prop} (H : At h0 h (.blk lg t [.slice sl.a sl.n sl.c] :: .own sl 2 (eRE.fl es) :: G)) (A : RdS h 2 x (eRE.fl ys)) (hxc : x.n ≤ x.c) (hl : es.length ≤ 100000) (hlen : ys.length ≤ 1000) (hi : -1 ≤ index ∧ index ≤ 2000)
    (hR : ∀ sl' h', At h0 h' (.blk lg t [.slice sl'.a sl'.n sl'.c] :: .own sl' 2 (eRE.fl (putR es index term ys).1) :: G) → R (putR es index term ys).2.1 (putR es index term ys).2.2 h') : C_log_Log_Put (some ⟨lg, 0, none⟩) index term x h R := by
  refine A_log_Log_Put ?_
  unfold S_log_Log_Put
  have hxn := rdn A
  have hsn := H.n (E := eRE) 1 rfl
  refine brF (log_Term_ok H 0 rfl 1 rfl hl ?_)
  unfold putR at hR
  refine brNot (fun h1 => ?_) fun h1 => ?_
  · rw [if_pos h1] at hR; exact hR sl h H
  rw [if_neg (by rw [h1]; decide)] at hR
  have hidx : 0 ≤ index ∧ index ≤ es.length := by
    unfold termAt at h1
    by_cases e : index < 0 ∨ index > es.length
    · rw [if_pos e] at h1; cases h1
    · omega
  obtain ⟨k, rfl⟩ : ∃ k : Nat, index = k := ⟨index.toNat, by omega⟩
  rw [Int.toNat_natCast] at hR
  refine br bne_iff_ne (fun h2 => ?_) fun h2 => ?_
  · rw [if_pos h2] at hR; exact hR sl h H
  rw [if_neg h2] at hR
  refine falls_At A (by omega) fun h3 e1 => brB (fun hf => ?_) fun hf => ?_
  · rw [if_pos hf] at hR; exact hR sl h3 (H.ext' e1)
  rw [if_neg (by rw [hf]; decide)] at hR
  refine known_At (H.ext' e1) hl k rfl (by omega) (A.ext' e1) (by omega) fun h4 e2 => ?_
  have E2 : Ext h.size h h4 := e1.trans (e2.mono e1.1)
  have H := H.ext' E2
  have A := A.ext' E2
  obtain ⟨kl1, kl2⟩ := knownR_le (es.drop k) ys
  rw [List.length_drop] at kl1
  generalize knownR (es.drop k) ys = n at *
  refine br beq_iff_eq (fun hc => ?_) fun hc => ?_
  · rw [if_pos (by omega)] at hR; exact hR sl h4 H
  rw [if_neg (by omega)] at hR
  rw [hxn, w64 (n := (k : Int) + (ys.length : Int)) (by omega) (by omega)]
  refine brD (fun hc2 => ?_) fun hc2 => nn ?_
  · rw [if_pos (by omega)] at hR; exact hR sl h4 H
  rw [if_neg (by omega)] at hR
  have hsc := (H.own 1 rfl).2.1
  refine ldAt0 H 0 rfl sl rfl ?_
  rw [w64 (n := (k : Int) + n) (by omega) (by omega)]
  refine cutRO (E := eRE) TRE (H.own 1 rfl) 0 (k + n) (k + n) lo0 (hii (by omega)) (.inr ⟨hii (by omega), by simp⟩) (by omega) (by omega) (Nat.le_refl _) (by omega) fun s2 o2 n2 c2 b2 => ?_
  refine cutR (E := eRE) TRE A n ys.length x.c (loi rfl) (by rw [← hxn]; exact hi0 _) (.inl ⟨rfl, rfl⟩) (by omega) (Nat.le_refl _) (by omega) (Nat.le_refl _) fun s3 r3 n3 c3 b3 => ?_
  rw [List.drop_zero, Nat.sub_zero] at o2
  rw [List.take_of_length_le (by rw [List.length_drop]; omega)] at r3
  have H := H.as_ 1 rfl (.own s2 2 (eRE.fl (es.take (k + n)))) o2 fun g hg => by rw [Res.fp, ← b2]; exact hg
  refine appAt (E := eRE) TRE H 1 rfl r3 (by rw [List.length_take, List.length_drop]; omega) (by rw [List.length_take, List.length_drop]; omega) fun s4 h5 H => nn ?_
  refine stAt0 H 0 rfl rfl fun h6 H => ?_
  rw [w64 (by omega) (by omega)]
  exact hR s4 h6 H
end
end Go.Proofs.YtniojdaddolnfaaGreat

/-
  Layer 8 (raft): the contracts of the messages that bring entries. (The middle of this text is printed out of XAe's by gen/mkgb.py.)
-/
namespace Go.Proofs.YtniojdaddolnfaaGreat
open Go

def mcS (m : RM) (sm : Sl) : List Value := [.int .i64 m.kind, .int .i64 m.from_, .int .i64 m.to, .int .i64 m.term, .int .i64 m.index, .int .i64 m.logTerm, .int .i64 m.commit, .bool m.yes, .slice sm.a sm.n sm.c]
section
variable {h0 h : Heap} {F : List Res} {d : Nat} {X : RN} {m : RM} {sm : Sl}
/-- Entries that are read wherever these things are. -/
structure EntS (h0 : Heap) (F : List Res) (x : Sl) (es : List RE) : Prop where
  nc : x.n ≤ x.c
  rd : ∀ h' L, At h0 h' (L ++ F) → RdS h' 2 x (eRE.fl es)
theorem EntS.cons {x : Sl} {es : List RE} {r : Res} (E : EntS h0 F x es) : EntS h0 (r :: F) x es := ⟨E.nc, fun h' L H => E.rd h' (L ++ [r]) (by rw [List.append_assoc]; exact H)⟩
theorem EntS.at_ {x : Sl} {es : List RE} (E : EntS h0 F x es) (H : RaftAt h0 h d X F) : RdS h 2 x (eRE.fl es) := E.rd h [] H.ats
theorem raft_countsS {R : Bool → Heap → Prop} (H : RaftAt h0 h d X F) (E : EntS h0 F sm m.ents) (hl : m.ents.length ≤ 1000000) (hR : ∀ h', RaftAt h0 h' d X F → R (decide (countsB X m)) h') :
    C_raft_Node_counts (some ⟨d, 0, none⟩) (m.kind, m.from_, m.to, m.term, m.index, m.logTerm, m.commit, m.yes, sm, ()) h R := by
  refine A_raft_Node_counts ?_
  unfold S_raft_Node_counts
  refine RaftAt.alloc (cs := mcS m sm) H fun h b H => ?_
  have hsn := rdn (E.cons.at_ H)
  have no : ¬ countsB X m → R false h := fun hn => by
    have := hR h H.tail
    rwa [decide_eq_false hn] at this
  unfold countsB at no
  refine ldM (j := 2) H m.to rfl (nn (ldR0_ok H X.id (fun _ _ => rfl) ?_))
  refine br beq_iff_eq (fun h1 => ?_) fun h1 => no fun x => h1 x.1
  refine ldM (j := 1) H m.from_ rfl (nn (ldR0_ok H X.id (fun _ _ => rfl) ?_))
  refine br bne_iff_ne (fun h2 => ?_) fun h2 => no fun x => h2 x.2.1
  refine ldM (j := 1) H m.from_ rfl (brD (fun h3 => ?_) fun h3 => no fun x => h3 x.2.2.1)
  refine ldM (j := 1) H m.from_ rfl (nn (ldR_ok (j := 1) H X.n (fun _ _ => rfl) (brD (fun h4 => ?_) fun h4 => no fun x => h4 x.2.2.2.1)))
  refine ldM0 H m.kind rfl (brD (fun h5 => ?_) fun h5 => no fun x => h5 x.2.2.2.2.1)
  refine ldM0 H m.kind rfl (brD (fun h6 => ?_) fun h6 => no fun x => h6 x.2.2.2.2.2.1)
  refine ldM (j := 3) H m.term rfl (brD (fun h7 => ?_) fun h7 => no fun x => h7 x.2.2.2.2.2.2.1)
  refine ldM (j := 3) H m.term rfl (brD (fun h8 => ?_) fun h8 => no fun x => h8 x.2.2.2.2.2.2.2.1)
  refine ldM (j := 8) H sm rfl (brD (fun h9 => ?_) fun h9 => no fun x => h9 (by have := x.2.2.2.2.2.2.2.2.1; omega))
  refine ldM (j := 8) H sm rfl ?_
  refine A_slices_ContainsFunc_api_Entry_api_Entry (cap := some ⟨b, 0, none⟩) ?_
  refine A_slices_IndexFunc_api_Entry_api_Entry (cap := some ⟨b, 0, none⟩) ?_
  refine loop1 (s1 := .one (.int .i64)) (fun (y : Int) g1 => ∃ j : Nat, y = j ∧ j ≤ m.ents.length ∧ (∀ e ∈ m.ents.take j, ¬ oddE m.term e) ∧ RaftAt h0 g1 d X (.blk b 59 (mcS m sm) :: F)) (fun (y : Int) _ => (m.ents.length - y).toNat)
    ⟨0, rfl, Nat.zero_le _, (fun e he => by cases he), H⟩ fun _ (y : Int) g1 hI => ?_
  obtain ⟨j, rfl, hj, hall, H⟩ := hI
  refine brD (fun hc => ?_) fun hc => ?_
  · have hj2 : j < m.ents.length := by omega
    have A := E.cons.at_ H
    have bad : oddE m.term m.ents[j] → ∀ g, RaftAt h0 g d X (.blk b 59 (mcS m sm) :: F) → R false g := fun ho g H => by
      have := hR g H.tail
      rwa [decide_eq_false (fun x => x.2.2.2.2.2.2.2.2.2 _ (List.getElem_mem hj2) ho)] at this
    refine ixR A j rfl hj2 fun e he => ldR0 A he hj2 m.ents[j].term rfl (ldR (j := 1) A he hj2 m.ents[j].data rfl ?_)
    refine A_raft_Node_counts_1 ?_
    unfold S_raft_Node_counts_1
    refine RaftAt.alloc (cs := [.int .i64 m.ents[j].term, .string m.ents[j].data]) H fun g2 b2 H => ?_
    have A2 := H.ats
    have fin : ∀ g, R false g → R (!decide ((j : Int) ≥ 0)) g := fun g hg => by rw [decide_eq_true (by omega)]; exact hg
    refine ldAt0 A2 0 rfl m.ents[j].term rfl (ldAt (j := 3) A2 1 rfl m.term rfl ?_)
    refine brD (fun k1 => brY rfl (fin _ (bad (.inl k1) _ H.tail))) fun k1 => ?_
    refine ldAt0 A2 0 rfl m.ents[j].term rfl (brD (fun k2 => brY rfl (fin _ (bad (.inr (.inl k2)) _ H.tail))) fun k2 => ?_)
    refine ldAt (j := 1) A2 0 rfl m.ents[j].data rfl (brD (fun k3 => fin _ (bad (.inr (.inr (by omega))) _ H.tail)) fun k3 => ?_)
    rw [w64 (by omega) (by omega)]
    refine ⟨⟨j + 1, by omega, by omega, fun e he => ?_, H.tail⟩, by omega⟩
    rw [List.take_add_one, List.getElem?_eq_getElem hj2] at he
    rcases List.mem_append.1 he with he | he
    · exact hall e he
    · rw [List.mem_singleton.1 he]
      intro ho
      unfold oddE at ho
      omega
  · have hjl : j = m.ents.length := by omega
    rw [hjl, List.take_length] at hall
    have := hR g1 H.tail
    rw [decide_eq_true (show countsB X m from ⟨h1, h2, h3, h4, h5, h6, h7, h8, by omega, hall⟩)] at this
    exact this

theorem raft_askPreS {R : Heap → Prop} (H : RaftAt h0 h d X F) (hl : X.log.length ≤ 100000) (ho : X.out.length ≤ 999999) (hR : ∀ h', RaftAt h0 h' d (rAskPre X m) F → R h') :
    C_raft_Node_askPre (some ⟨d, 0, none⟩) (m.kind, m.from_, m.to, m.term, m.index, m.logTerm, m.commit, m.yes, sm, ()) h R := by
  refine A_raft_Node_askPre ?_
  unfold S_raft_Node_askPre
  refine RaftAt.alloc (cs := mcS m sm) H fun h b H => ?_
  unfold rAskPre at hR
  refine join1 (s1 := .one .bool) (fun (q : Bool) h1 => (q = true ↔ preB X m) ∧ h1 = h) (fun _ (q : Bool) h1 hJ => ?_) ?_
  · obtain ⟨hq, rfl⟩ := hJ
    have hq2 : q = decide (preB X m) := by rw [Bool.eq_iff_iff, hq, decide_eq_true_iff]
    subst hq2
    refine nn (ldR_ok (j := 4) H X.term (fun _ _ => rfl) ?_)
    refine brD (fun hp => ?_) fun hp => ?_
    · rw [if_pos hp] at hR
      refine ldM (j := 3) H m.term rfl (ldM (j := 1) H m.from_ rfl ?_)
      exact sendE (m := ⟨2, 0, 0, m.term, 0, 0, 0, decide (preB X m), []⟩) H rfl ho fun h2 H => hR _ H.tail
    · rw [if_neg hp] at hR
      refine ldM (j := 1) H m.from_ rfl ?_
      exact sendE (m := ⟨2, 0, 0, X.term, 0, 0, 0, decide (preB X m), []⟩) H rfl ho fun h2 H => hR _ H.tail
  · unfold preB
    refine ldM (j := 3) H m.term rfl (nn (ldR_ok (j := 4) H X.term (fun _ _ => rfl) ?_))
    refine brD (fun h1 => ?_) fun h1 => ⟨⟨fun x => (by cases x), fun x => absurd x.1 h1⟩, rfl⟩
    have H0 := H
    obtain ⟨ty, lg, tl, sl, so, z, hz, H⟩ := H
    refine nn (ldAt (j := 11) H 0 rfl (some ⟨lg, 0, none⟩) rfl ?_)
    refine ldM (j := 4) H0 m.index rfl (ldM (j := 5) H0 m.logTerm rfl ?_)
    refine log_Younger_ok H 1 rfl 2 rfl hl (brD (fun h2 => ?_) fun h2 => ⟨⟨fun x => (by cases x), fun x => absurd x.2.1 h2⟩, rfl⟩)
    refine nn (ldR_ok (j := 6) H0 X.role (fun _ _ => rfl) (br bne_iff_ne (fun h3 => ?_) fun h3 => ⟨⟨fun x => (by cases x), fun x => absurd x.2.2.1 h3⟩, rfl⟩))
    refine nn (ldR_ok (j := 7) H0 X.leader (fun _ _ => rfl) (br beq_iff_eq (fun h4 => ⟨⟨fun _ => ⟨h1, h2, h3, .inl h4⟩, fun _ => rfl⟩, rfl⟩) fun h4 => ?_))
    refine nn (ldR_ok (j := 8) H0 X.since (fun _ _ => rfl) (nn (ldR_ok (j := 2) H0 X.elect (fun _ _ => rfl) (let_ ⟨?_, rfl⟩))))
    rw [decide_eq_true_iff]
    exact ⟨fun x => ⟨h1, h2, h3, .inr x⟩, fun x => x.2.2.2.resolve_left h4⟩
theorem raft_tellPreS {R : Heap → Prop} (H : RaftAt h0 h d X F) (hb : RB X) (hc0 : 0 ≤ X.commit) (ht : 0 ≤ X.term ∧ X.term ≤ 1099511627776) (hv : X.votes < 128) (hf : 0 ≤ m.from_ ∧ m.from_ < 7) (ho : X.out.length ≤ 770000) (hR : ∀ h', RaftAt h0 h' d (rTellPre X m) F → R h') :
    C_raft_Node_tellPre (some ⟨d, 0, none⟩) (m.kind, m.from_, m.to, m.term, m.index, m.logTerm, m.commit, m.yes, sm, ()) h R := by
  refine A_raft_Node_tellPre ?_
  unfold S_raft_Node_tellPre
  refine RaftAt.alloc (cs := mcS m sm) H fun h b H => ?_
  unfold rTellPre at hR
  refine join1 (s1 := .one .bool) (fun (q : Bool) h1 => (q = true ↔ (m.yes = false ∧ m.term > X.term)) ∧ h1 = h) (fun _ (q : Bool) h1 hJ => ?_) ?_
  rotate_left
  · refine ldM (j := 7) H m.yes rfl (brNot (fun hy => ?_) fun hy => ⟨⟨fun x => (by cases x), fun x => by rw [hy] at x; cases x.1⟩, rfl⟩)
    refine ldM (j := 3) H m.term rfl (nn (ldR_ok (j := 4) H X.term (fun _ _ => rfl) ⟨?_, rfl⟩))
    rw [decide_eq_true_iff]
    exact ⟨fun x => ⟨hy, x⟩, fun x => x.2⟩
  obtain ⟨hq, rfl⟩ := hJ
  refine brB (fun hqt => ?_) fun hqf => ?_
  · rw [if_pos (hq.1 hqt)] at hR
    refine ldM (j := 3) H m.term rfl ?_
    exact raft_follow_ok H fun h2 H => hR _ H.tail
  · rw [if_neg fun x => by rw [hq.2 x] at hqf; cases hqf] at hR
    refine join1 (s1 := .one .bool) (fun (q : Bool) h2 => (q = true ↔ (m.yes = true ∧ m.term = X.term + 1 ∧ X.role = 1)) ∧ h2 = h1) (fun _ (q : Bool) h2 hJ => ?_) ?_
    rotate_left
    · refine ldM (j := 7) H m.yes rfl (brB (fun hy => ?_) fun hy => ⟨⟨fun x => (by cases x), fun x => by rw [hy] at x; cases x.1⟩, rfl⟩)
      refine ldM (j := 3) H m.term rfl (nn (ldR_ok (j := 4) H X.term (fun _ _ => rfl) ?_))
      rw [w64 (by omega) (by omega)]
      refine br beq_iff_eq (fun h3 => ?_) fun h3 => ⟨⟨fun x => (by cases x), fun x => absurd x.2.1 h3⟩, rfl⟩
      refine nn (ldR_ok (j := 6) H X.role (fun _ _ => rfl) ⟨?_, rfl⟩)
      rw [beq_iff_eq]
      exact ⟨fun x => ⟨hy, h3, x⟩, fun x => x.2.2⟩
    obtain ⟨hq2, rfl⟩ := hJ
    refine brB (fun hqt => ?_) fun hqf2 => ?_
    · rw [if_pos (hq2.1 hqt)] at hR
      refine nn (ldR_ok (j := 12) H (X.votes : Int) (fun _ _ => rfl) (ldM (j := 1) H m.from_ rfl (nneg (by rw [wu64 (by omega) (by omega)]; omega) (nn ?_))))
      rw [bit_orT hv hf.1 hf.2]
      refine stR_ok (j := 12) { X with votes := X.votes ||| 2 ^ m.from_.toNat } H rfl rfl rfl (fun _ _ => rfl) fun h3 H => nn ?_
      refine ldR_ok (j := 12) H ((X.votes ||| 2 ^ m.from_.toNat : Nat) : Int) (fun _ _ => rfl) ?_
      refine raft_most_ok H (or7 hv hf.1 hf.2) (brD (fun hm => ?_) fun hm => ?_)
      · rw [if_pos (show mostB X _ from hm)] at hR
        exact raft_stands_ok H (hb.of rfl rfl rfl rfl) hc0 ht (by show X.out.length ≤ _; omega) fun h4 H => hR _ H.tail
      · rw [if_neg (show ¬ mostB X _ from hm)] at hR
        exact hR _ H.tail
    · rw [if_neg fun x => by rw [hq2.2 x] at hqf2; cases hqf2] at hR
      exact hR _ H.tail
theorem raft_askVoteS {R : Heap → Prop} (H : RaftAt h0 h d X F) (hl : X.log.length ≤ 100000) (ho : X.out.length ≤ 999999) (hR : ∀ h', RaftAt h0 h' d (rAskVote X m) F → R h') :
    C_raft_Node_askVote (some ⟨d, 0, none⟩) (m.kind, m.from_, m.to, m.term, m.index, m.logTerm, m.commit, m.yes, sm, ()) h R := by
  refine A_raft_Node_askVote ?_
  unfold S_raft_Node_askVote
  refine RaftAt.alloc (cs := mcS m sm) H fun h b H => ?_
  unfold rAskVote at hR
  refine join1 (s1 := .one .bool) (fun (q : Bool) h1 => (q = true ↔ voteB X m) ∧ h1 = h) (fun _ (q : Bool) h1 hJ => ?_) ?_
  · obtain ⟨hq, rfl⟩ := hJ
    have hq2 : q = decide (voteB X m) := by rw [Bool.eq_iff_iff, hq, decide_eq_true_iff]
    subst hq2
    refine join0 (fun h2 => RaftAt h0 h2 d (if voteB X m then { X with hard := X.hard || (X.vote != m.from_), vote := m.from_, since := 0 } else X) (.blk b 59 (mcS m sm) :: F)) (fun _ h2 H => ?_) ?_
    · refine ldM (j := 1) H m.from_ rfl (nn (ldR_ok (j := 4) H X.term (fun _ _ => by split <;> rfl) ?_))
      exact sendE (m := ⟨4, 0, 0, X.term, 0, 0, 0, decide (voteB X m), []⟩) H rfl (by split <;> exact ho) fun h3 H => hR _ H.tail
    · refine brD (fun hp => ?_) fun hp => ?_
      · rw [if_pos hp]
        refine join0 (fun h2 => RaftAt h0 h2 d { X with hard := X.hard || (X.vote != m.from_) } (.blk b 59 (mcS m sm) :: F)) (fun _ h2 H => ?_) ?_
        · refine ldM (j := 1) H m.from_ rfl (nn ?_)
          refine stR_ok (j := 5) { X with hard := X.hard || (X.vote != m.from_), vote := m.from_ } H rfl rfl rfl (fun _ _ => rfl) fun h3 H => nn ?_
          exact stR_ok (j := 8) { X with hard := X.hard || (X.vote != m.from_), vote := m.from_, since := 0 } H rfl rfl rfl (fun _ _ => rfl) fun h3 H => H
        · refine nn (ldR_ok (j := 29) H X.hard (fun _ _ => rfl) (brB (fun hh => nn ?_) fun hh => nn ?_))
          · refine stR_ok (j := 29) { X with hard := X.hard || (X.vote != m.from_) } H rfl rfl rfl (fun lg so => by rw [hh]; rfl) fun h3 H => H
          · refine ldR_ok (j := 5) H X.vote (fun _ _ => rfl) (ldM (j := 1) H m.from_ rfl (nn ?_))
            exact stR_ok (j := 29) { X with hard := X.hard || (X.vote != m.from_) } H rfl rfl rfl (fun lg so => by rw [hh]; rfl) fun h3 H => H
      · rw [if_neg hp]; exact H
  · unfold voteB
    have H0 := H
    have young : (X.vote = -1 ∨ X.vote = m.from_) → X.role ≠ 3 → Nn (some (⟨d, 0, none⟩ : Addr)) fun p9 => Ld .ptr h (p9.add 11) fun (log : Option Addr) => Ld (.int .i64) h ((⟨b, 0, none⟩ : Addr).add 4) fun (Index : Int) => Ld (.int .i64) h ((⟨b, 0, none⟩ : Addr).add 5) fun (LogTerm : Int) => C_log_Log_Younger log Index LogTerm h fun (r : Bool) h_9 => (r = true ↔ ((X.vote = -1 ∨ X.vote = m.from_) ∧ X.role ≠ 3 ∧ youngB X.log m.index m.logTerm)) ∧ h_9 = h := fun hv hr => by
      obtain ⟨ty, lg, tl, sl, so, z, hz, H⟩ := H
      refine nn (ldAt (j := 11) H 0 rfl (some ⟨lg, 0, none⟩) rfl ?_)
      refine ldM (j := 4) H0 m.index rfl (ldM (j := 5) H0 m.logTerm rfl ?_)
      refine log_Younger_ok H 1 rfl 2 rfl hl ⟨?_, rfl⟩
      rw [decide_eq_true_iff]
      exact ⟨fun x => ⟨hv, hr, x⟩, fun x => x.2.2⟩
    refine nn (ldR_ok (j := 5) H X.vote (fun _ _ => rfl) (br beq_iff_eq (fun h1 => ?_) fun h1 => ?_))
    · refine nn (ldR_ok (j := 6) H X.role (fun _ _ => rfl) (br bne_iff_ne (fun h2 => young (.inl h1) h2) fun h2 => ⟨⟨fun x => (by cases x), fun x => absurd x.2.1 h2⟩, rfl⟩))
    · refine nn (ldR_ok (j := 5) H X.vote (fun _ _ => rfl) (ldM (j := 1) H m.from_ rfl (br beq_iff_eq (fun h3 => ?_) fun h3 => ⟨⟨fun x => (by cases x), fun x => by rcases x.1 with x | x; exact absurd x h1; exact absurd x h3⟩, rfl⟩)))
      refine nn (ldR_ok (j := 6) H X.role (fun _ _ => rfl) (br bne_iff_ne (fun h2 => young (.inr h3) h2) fun h2 => ⟨⟨fun x => (by cases x), fun x => absurd x.2.1 h2⟩, rfl⟩))
theorem raft_tellVoteS {R : Heap → Prop} (H : RaftAt h0 h d X F) (hb : RB X) (hc0 : 0 ≤ X.commit) (hv : X.votes < 128) (hf : 0 ≤ m.from_ ∧ m.from_ < 7) (ho : X.out.length ≤ 770000) (hR : ∀ h', RaftAt h0 h' d (rTellVote X m) F → R h') :
    C_raft_Node_tellVote (some ⟨d, 0, none⟩) (m.kind, m.from_, m.to, m.term, m.index, m.logTerm, m.commit, m.yes, sm, ()) h R := by
  refine A_raft_Node_tellVote ?_
  unfold S_raft_Node_tellVote
  refine RaftAt.alloc (cs := mcS m sm) H fun h b H => ?_
  unfold rTellVote at hR
  refine join1 (s1 := .one .bool) (fun (q : Bool) h1 => (q = true ↔ (m.yes = false ∨ X.role ≠ 2)) ∧ h1 = h) (fun _ (q : Bool) h1 hJ => ?_) ?_
  rotate_left
  · refine ldM (j := 7) H m.yes rfl (brNot (fun hy => ⟨⟨fun _ => .inl hy, fun _ => rfl⟩, rfl⟩) fun hy => ?_)
    refine nn (ldR_ok (j := 6) H X.role (fun _ _ => rfl) ⟨?_, rfl⟩)
    rw [bne_iff_ne]
    exact ⟨fun x => .inr x, fun x => by rcases x with x | x; rw [hy] at x; cases x; exact x⟩
  obtain ⟨hq, rfl⟩ := hJ
  refine brB (fun hqt => ?_) fun hqf => ?_
  · rw [if_pos (hq.1 hqt)] at hR; exact hR _ H.tail
  · rw [if_neg fun x => by rw [hq.2 x] at hqf; cases hqf] at hR
    refine nn (ldR_ok (j := 12) H (X.votes : Int) (fun _ _ => rfl) (ldM (j := 1) H m.from_ rfl (nneg (by rw [wu64 (by omega) (by omega)]; omega) (nn ?_))))
    rw [bit_orT hv hf.1 hf.2]
    refine stR_ok (j := 12) { X with votes := X.votes ||| 2 ^ m.from_.toNat } H rfl rfl rfl (fun _ _ => rfl) fun h3 H => nn ?_
    refine ldR_ok (j := 12) H ((X.votes ||| 2 ^ m.from_.toNat : Nat) : Int) (fun _ _ => rfl) ?_
    refine raft_most_ok H (or7 hv hf.1 hf.2) (brD (fun hm => ?_) fun hm => ?_)
    · rw [if_pos (show mostB X _ from hm)] at hR
      exact raft_leads_ok H (hb.of rfl rfl rfl rfl) hc0 (by show X.out.length ≤ _; omega) fun h4 H => hR _ H.tail
    · rw [if_neg (show ¬ mostB X _ from hm)] at hR
      exact hR _ H.tail
set_option maxHeartbeats 1600000 in
theorem raft_hearsS {k : Nat} {R : Heap → Prop} (H : RaftAt h0 h d X F) (hb : RB X) (hc0 : 0 ≤ X.commit) (hh : X.heard < 128) (hm : ∀ t, 0 ≤ X.matc t ∧ X.matc t ≤ 1024) (hf : m.from_ = (k : Int)) (hk : k < 7) (ho : X.out.length ≤ 700000) (hR : ∀ h', RaftAt h0 h' d (rHears X m) F → R h') :
    C_raft_Node_hears (some ⟨d, 0, none⟩) (m.kind, m.from_, m.to, m.term, m.index, m.logTerm, m.commit, m.yes, sm, ()) h R := by
  refine A_raft_Node_hears ?_
  unfold S_raft_Node_hears
  refine RaftAt.alloc (cs := mcS m sm) H fun h b H => ?_
  unfold rHears at hR
  have hl := hb.l
  have hkn : m.from_.toNat = k := by omega
  rw [hkn] at hR
  refine nn (ldR_ok (j := 6) H X.role (fun _ _ => rfl) (br bne_iff_ne (fun h1 => ?_) fun h1 => nn ?_))
  · rw [if_pos h1] at hR; exact hR _ H.tail
  rw [if_neg h1] at hR
  refine ldR_ok (j := 13) H (X.heard : Int) (fun _ _ => rfl) (ldM (j := 1) H m.from_ rfl (nneg (by rw [wu64 (by omega) (by omega)]; omega) (nn ?_)))
  rw [bit_orT hh (by omega) (by omega), hkn]
  refine stR_ok (j := 13) (rHear0 X k) H rfl rfl rfl (fun _ _ => rfl) fun h2 H => ?_
  refine ldM (j := 1) H m.from_ rfl (nn (ixArr k hf hk ?_))
  refine raft_Last_ok H (by show X.log.length ≤ _; omega) ⟨ldM (j := 1) H m.from_ rfl rfl, ?_⟩
  refine join1 (s1 := .one .bool) (fun (q : Bool) h3 => (q = true ↔ (m.yes = true ∧ 0 ≤ m.index ∧ m.index ≤ X.log.length)) ∧ h3 = h2) (fun _ (q : Bool) h3 hJ => ?_) ?_
  rotate_left
  · refine ldM (j := 7) H m.yes rfl (brB (fun hy => ?_) fun hy => ⟨⟨fun x => (by cases x), fun x => by rw [hy] at x; cases x.1⟩, rfl⟩)
    refine ldM (j := 4) H m.index rfl (brD (fun h4 => ?_) fun h4 => ⟨⟨fun x => (by cases x), fun x => absurd x.2.1 h4⟩, rfl⟩)
    refine ldM (j := 4) H m.index rfl ⟨?_, rfl⟩
    rw [decide_eq_true_iff]
    exact ⟨fun x => ⟨hy, h4, x⟩, fun x => x.2.2⟩
  obtain ⟨hq, rfl⟩ := hJ
  refine brB (fun hqt => nn ?_) fun hqf => ?_
  · have hc := hq.1 hqt
    rw [if_pos hc] at hR
    have hmk := hm k
    have hnk := hb.nx k
    have hmx : 0 ≤ mx (X.matc k) m.index ∧ mx (X.matc k) m.index ≤ 1024 := by unfold mx; split <;> omega
    refine ldR_ok (j := 21 + k) H (X.matc k) (fun lg so => cells_matc (rHear0 X k) lg so k hk) (ldM (j := 4) H m.index rfl (nn ?_))
    refine stR_ok (j := 21 + k) { rHear0 X k with matc := upd X.matc k (mx (X.matc k) m.index) } H (by simp; omega) rfl rfl (fun lg so => cells_matcS (rHear0 X k) lg so _ k hk) fun h4 H => ?_
    refine ldM (j := 1) H m.from_ rfl (nn ?_)
    refine ldR_ok (j := 21 + k) H (mx (X.matc k) m.index) (fun lg so => (cells_matc { rHear0 X k with matc := upd X.matc k (mx (X.matc k) m.index) } lg so k hk).trans (by show some (Value.int .i64 (if k = k then _ else _)) = _; rw [if_pos rfl])) (nn (ixArr k hf hk ?_))
    rw [w64 (by omega) (by omega)]
    refine stR_ok (j := 14 + k) (rHear1 X k m.index) H (by simp; omega) rfl rfl (fun lg so => cells_nextS { rHear0 X k with matc := upd X.matc k (mx (X.matc k) m.index) } lg so _ k hk) fun h5 H => ?_
    have hb1 := hb.hear1 hm k (i := m.index) (by omega)
    obtain ⟨e1, e2, e3, e4, e5, _, _⟩ := rAgree_same (rHear1 X k m.index)
    have hlen := rAgree_len hb1
    have hlen : (rAgree (rHear1 X k m.index)).out.length ≤ X.out.length + 7 := hlen
    refine raft_agree_ok H hb1 hc0 (by show X.out.length ≤ _; omega) fun h6 H => nn ?_
    refine ldR_ok (j := 21 + k) H ((rAgree (rHear1 X k m.index)).matc k) (fun lg so => cells_matc _ lg so k hk) ?_
    refine raft_Last_ok H (by rw [e4]; show X.log.length ≤ _; omega) ⟨ldR_ok (j := 21 + k) H _ (fun lg so => cells_matc _ lg so k hk) rfl, ?_⟩
    have el : ((rAgree (rHear1 X k m.index)).log.length : Int) = X.log.length := by rw [e4]; rfl
    rw [el]
    refine brD (fun h7 => ?_) fun h7 => ?_
    · rw [if_pos h7] at hR
      refine ldM (j := 1) H m.from_ rfl ?_
      rw [hf]
      exact raft_to_ok H (hb1.of e1 e2 e3 e4) hk (by omega) fun h8 H => hR _ H.tail
    · rw [if_neg h7] at hR
      exact hR _ H.tail
  · rw [if_neg fun x => by rw [hq.2 x] at hqf; cases hqf] at hR
    refine ldM (j := 7) H m.yes rfl (brNot (fun hy => ?_) fun hy => ?_)
    · rw [if_pos hy] at hR
      have hmk := hm k
      have hnk := hb.nx k
      refine ldM (j := 1) H m.from_ rfl (ldM (j := 4) H m.index rfl (ldM (j := 1) H m.from_ rfl (nn (ixArr k hf hk ?_))))
      refine ldR_ok (j := 14 + k) H (X.next k) (fun lg so => cells_next (rHear0 X k) lg so k hk) (nn ?_)
      refine ldR_ok (j := 21 + k) H (X.matc k) (fun lg so => cells_matc (rHear0 X k) lg so k hk) (nn (ixArr k hf hk ?_))
      have hB : 0 ≤ mn (mx m.index 0) (X.log.length : Int) ∧ mn (mx m.index 0) (X.log.length : Int) ≤ 1024 := by
        unfold mn mx
        repeat' split
        all_goals omega
      rw [w64 (n := X.matc k + 1) (by omega) (by omega), w64 (n := X.next k - 1) (by omega) (by omega)]
      have hw := w64 (n := mn (mx m.index 0) (X.log.length : Int) + 1) (by omega) (by omega)
      unfold mn mx at hw
      refine stR_ok (j := 14 + k) (rHear2 X k m.index) H (by simp; omega) rfl rfl (fun lg so => ?_) fun h5 H => ?_
      · show _ = List.set _ _ (Value.int .i64 (if X.matc k + 1 > (if X.next k - 1 < IntKind.i64.wrap ((if (X.log.length : Int) < (if 0 > m.index then 0 else m.index) then (X.log.length : Int) else if 0 > m.index then 0 else m.index) + 1) then X.next k - 1 else IntKind.i64.wrap ((if (X.log.length : Int) < (if 0 > m.index then 0 else m.index) then (X.log.length : Int) else if 0 > m.index then 0 else m.index) + 1)) then X.matc k + 1 else if X.next k - 1 < IntKind.i64.wrap ((if (X.log.length : Int) < (if 0 > m.index then 0 else m.index) then (X.log.length : Int) else if 0 > m.index then 0 else m.index) + 1) then X.next k - 1 else IntKind.i64.wrap ((if (X.log.length : Int) < (if 0 > m.index then 0 else m.index) then (X.log.length : Int) else if 0 > m.index then 0 else m.index) + 1)))
        rw [hw]
        exact cells_nextS (rHear0 X k) lg so _ k hk
      refine ldM (j := 1) H m.from_ rfl ?_
      rw [hf]
      exact raft_to_ok H (hb.hear2 hm k m.index) hk (by show X.out.length ≤ _; omega) fun h8 H => hR _ H.tail
    · rw [if_neg (by rw [hy]; decide)] at hR
      exact hR _ H.tail
theorem raft_appendS {R : Heap → Prop} (H : RaftAt h0 h d X F) (hb : RB X) (E : EntS h0 F sm m.ents) (hl : m.ents.length ≤ 8) (hi : -1 ≤ m.index ∧ m.index ≤ 2000) (hc0 : 0 ≤ X.commit) (ho : X.out.length ≤ 900000) (hR : ∀ h', RaftAt h0 h' d (rAppend X m) F → R h') :
    C_raft_Node_append (some ⟨d, 0, none⟩) (m.kind, m.from_, m.to, m.term, m.index, m.logTerm, m.commit, m.yes, sm, ()) h R := by
  refine A_raft_Node_append ?_
  unfold S_raft_Node_append
  refine RaftAt.alloc (cs := mcS m sm) H fun h b H => nn ?_
  have E := E.cons (r := .blk b 59 (mcS m sm))
  have hlg := hb.l
  unfold rAppend at hR
  refine ldR_ok (j := 6) H X.role (fun _ _ => rfl) (br beq_iff_eq (fun hr => ?_) fun hr => nn ?_)
  · rw [if_pos hr] at hR; exact hR _ H.tail
  rw [if_neg hr] at hR
  refine ldR_ok (j := 4) H X.term (fun _ _ => rfl) (ldM (j := 1) H m.from_ rfl ?_)
  refine raft_follow_ok H fun h1 H => nn ?_
  have e0 := rApp0_eq X m
  have ef : rFollow X X.term m.from_ = { X with role := 0, leader := m.from_ } := by unfold rFollow; rw [if_neg (by omega)]
  rw [ef] at H
  refine stR_ok (j := 8) (rApp0 X m) H (by decide) (by rw [e0]) (by rw [e0]) (fun _ _ => by rw [e0]; rfl) fun h2 H => ?_
  have hY : (rApp0 X m).log = X.log ∧ (rApp0 X m).commit = X.commit ∧ (rApp0 X m).term = X.term ∧ (rApp0 X m).out = X.out := by rw [e0]; exact ⟨rfl, rfl, rfl, rfl⟩
  have hbY : RB (rApp0 X m) := by rw [e0]; exact hb.of rfl rfl rfl rfl
  refine ldM (j := 4) H m.index rfl (nn (ldR_ok (j := 10) H X.commit (fun _ _ => by rw [e0]; rfl) (brD (fun h3 => ?_) fun h3 => nn ?_)))
  · rw [if_pos h3] at hR
    refine ldM (j := 1) H m.from_ rfl (nn (ldR_ok (j := 10) H X.commit (fun _ _ => by rw [e0]; rfl) ?_))
    exact raft_told_ok H (by rw [hY.2.2.2]; omega) fun h4 H => hR _ H.tail
  rw [if_neg h3] at hR
  have H0 := H
  obtain ⟨ty, lg, tl, sl, so, z, hz, H⟩ := H
  have H : At h0 h2 ([.blk d ty ((rApp0 X m).cells lg so), .blk lg tl [.slice sl.a sl.n sl.c], .own sl 2 (eRE.fl X.log), .own so 9 (eMS.fl z)] ++ ((.blk b 59 (mcS m sm) :: F) ++ entsR z)) := by
    have H2 := H
    unfold fourL at H2
    rw [hY.1] at H2
    exact H2
  refine ldAt (j := 11) H 0 rfl (some ⟨lg, 0, none⟩) rfl (ldM (j := 4) H0 m.index rfl (ldM (j := 5) H0 m.logTerm rfl (ldM (j := 8) H0 sm rfl ?_)))
  have key : ∀ (es' : List RE) (sl' : Sl) (h' : Heap), At h0 h' (.blk lg tl [.slice sl'.a sl'.n sl'.c] :: .own sl' 2 (eRE.fl es') :: .blk d ty ((rApp0 X m).cells lg so) :: .own so 9 (eMS.fl z) :: (((.blk b 59 (mcS m sm)) :: F) ++ entsR z)) → RaftAt h0 h' d { rApp0 X m with log := es' } (.blk b 59 (mcS m sm) :: F) := fun es' sl' h' H => ⟨ty, lg, tl, sl', so, z, hz, H.mv 2 1⟩
  refine log_Put_At (G := .blk d ty ((rApp0 X m).cells lg so) :: .own so 9 (eMS.fl z) :: (((.blk b 59 (mcS m sm)) :: F) ++ entsR z)) (H.mv 1 2) (E.at_ H0) E.nc (by omega) (by omega) hi fun sl' h4 H => ?_
  have H := key _ _ _ H
  refine br bne_iff_ne (fun hne => ?_) fun heq => ?_
  · rw [if_pos hne] at hR
    have hsame : (putR X.log m.index m.logTerm m.ents).1 = X.log := putR_err hne
    rw [hsame] at H
    have H : RaftAt h0 h4 d (rApp0 X m) (.blk b 59 (mcS m sm) :: F) := by
      have e : ({ rApp0 X m with log := X.log } : RN) = rApp0 X m := by rw [e0]
      rw [e] at H; exact H
    refine ldM (j := 1) H m.from_ rfl (ldM (j := 4) H m.index rfl ?_)
    refine raft_Last_ok H (by rw [hY.1]; omega) ?_
    refine ⟨ldM (j := 1) H m.from_ rfl rfl, ldM (j := 4) H m.index rfl rfl, ?_⟩
    rw [hY.1, w64 (by omega) (by omega)]
    have e : (if 0 > (if m.index - 1 < (X.log.length : Int) then m.index - 1 else (X.log.length : Int)) then 0 else if m.index - 1 < (X.log.length : Int) then m.index - 1 else (X.log.length : Int)) = mx (mn (X.log.length : Int) (m.index - 1)) 0 := by unfold mx mn; rfl
    rw [e]
    exact raft_told_ok H (by rw [hY.2.2.2]; omega) fun h5 H => hR _ H.tail
  · have heq : (putR X.log m.index m.logTerm m.ents).2.2 = 0 := Decidable.not_not.1 heq
    rw [if_neg fun x => x heq] at hR
    have hidx := putR_ok_le heq
    have hpe : rPut (rApp0 X m) m = if (putR X.log m.index m.logTerm m.ents).2.1 > 0 then rDirty { rApp0 X m with log := (putR X.log m.index m.logTerm m.ents).1 } (putR X.log m.index m.logTerm m.ents).2.1 else { rApp0 X m with log := (putR X.log m.index m.logTerm m.ents).1 } := by unfold rPut; rw [hY.1]
    refine join0 (fun h5 => RaftAt h0 h5 d (rPut (rApp0 X m) m) (.blk b 59 (mcS m sm) :: F)) (fun _ h5 H => ?_) ?_
    · have hsn := rdn (E.at_ H)
      obtain ⟨p1, p2, p3, p4, p5, p6, p7, p8, p9, p10⟩ := rPut_same (rApp0 X m) m
      have hcm : (rPut (rApp0 X m) m).commit = X.commit := p5.trans hY.2.1
      refine ldM (j := 4) H m.index rfl (ldM (j := 8) H sm rfl ?_)
      rw [hsn, w64 (by omega) (by omega)]
      refine let_ (nn ?_)
      refine ldR_ok (j := 10) H X.commit (fun _ _ => by rw [← hcm]; rfl) (ldM (j := 6) H m.commit rfl (nn ?_))
      have e : (if (if m.index + (m.ents.length : Int) < m.commit then m.index + (m.ents.length : Int) else m.commit) > X.commit then if m.index + (m.ents.length : Int) < m.commit then m.index + (m.ents.length : Int) else m.commit else X.commit) = mx X.commit (mn m.commit (m.index + m.ents.length)) := by unfold mx mn; rfl
      rw [e]
      refine stR_ok (j := 10) { rPut (rApp0 X m) m with commit := mx X.commit (mn m.commit (m.index + m.ents.length)) } H (by decide) rfl rfl (fun _ _ => rfl) fun h6 H => ?_
      refine ldM (j := 1) H m.from_ rfl ?_
      exact raft_told_ok H (by show (rPut (rApp0 X m) m).out.length ≤ _; rw [p8, hY.2.2.2]; omega) fun h7 H => hR _ H.tail
    · rw [hpe]
      refine brD (fun h5 => ?_) fun h5 => ?_
      · rw [if_pos h5]
        exact raft_dirty_ok H fun h6 H => H
      · rw [if_neg h5]; exact H
theorem raft_StepF_ok {R : Heap → Prop} (H : RaftAt h0 h d X F) (E : EntS h0 F sm m.ents) {S o : Nat} (B : BN S o X) (hm : BM m) (hoo : o ≤ 600000)
    (hR : ∀ h', RaftAt h0 h' d (rStepF X m) F → R h') : C_raft_Node_Step (some ⟨d, 0, none⟩) (m.kind, m.from_, m.to, m.term, m.index, m.logTerm, m.commit, m.yes, sm, ()) h R := by
  refine A_raft_Node_Step ?_
  unfold S_raft_Node_Step
  have hb := B.rb
  have hc0 := B.c
  have ht := B.t
  have hv := B.v
  have hh := B.h
  have hmt := B.mt
  have ho := B.o
  have he8 := hm.e
  have hl := hb.l
  have hn7 := hb.n7
  refine RaftAt.alloc (cs := mcS m sm) H fun h b H => ?_
  have E := E.cons (r := .blk b 59 (mcS m sm))
  unfold rStepF at hR
  have ldAll : ∀ {h1 : Heap} {Y : RN} {K : Int → Int → Int → Int → Int → Int → Int → Bool → Sl → Prop}, RaftAt h0 h1 d Y (.blk b 59 (mcS m sm) :: F) → K m.kind m.from_ m.to m.term m.index m.logTerm m.commit m.yes sm →
      Ld (.int .i64) h1 (⟨b, 0, none⟩ : Addr) fun (a0 : Int) => Ld (.int .i64) h1 ((⟨b, 0, none⟩ : Addr).add 1) fun (a1 : Int) => Ld (.int .i64) h1 ((⟨b, 0, none⟩ : Addr).add 2) fun (a2 : Int) => Ld (.int .i64) h1 ((⟨b, 0, none⟩ : Addr).add 3) fun (a3 : Int) => Ld (.int .i64) h1 ((⟨b, 0, none⟩ : Addr).add 4) fun (a4 : Int) => Ld (.int .i64) h1 ((⟨b, 0, none⟩ : Addr).add 5) fun (a5 : Int) => Ld (.int .i64) h1 ((⟨b, 0, none⟩ : Addr).add 6) fun (a6 : Int) => Ld .bool h1 ((⟨b, 0, none⟩ : Addr).add 7) fun (a7 : Bool) => Ld .sl h1 ((⟨b, 0, none⟩ : Addr).add 8) fun (a8 : Sl) => K a0 a1 a2 a3 a4 a5 a6 a7 a8 := fun {h1 Y K} H hK =>
    ldM0 H m.kind rfl (ldM (j := 1) H m.from_ rfl (ldM (j := 2) H m.to rfl (ldM (j := 3) H m.term rfl (ldM (j := 4) H m.index rfl (ldM (j := 5) H m.logTerm rfl (ldM (j := 6) H m.commit rfl (ldM (j := 7) H m.yes rfl (ldM (j := 8) H sm rfl hK))))))))
  refine join1 (s1 := .one .bool) (fun (q : Bool) h1 => (q = true ↔ ¬ countsB X m) ∧ RaftAt h0 h1 d X (.blk b 59 (mcS m sm) :: F)) (fun _ (q : Bool) h1 hJ => ?_) ?_
  rotate_left
  · refine brF (ldAll H (raft_countsS H E (by omega) fun h2 H => ⟨?_, H⟩))
    by_cases hc : countsB X m
    · rw [decide_eq_true hc]; exact ⟨fun x => (by cases x), fun x => absurd hc x⟩
    · rw [decide_eq_false hc]; exact ⟨fun _ => hc, fun _ => rfl⟩
  obtain ⟨hq, H⟩ := hJ
  refine brB (fun hqt => ?_) fun hqf => ?_
  · rw [if_pos (hq.1 hqt)] at hR; exact hR _ H.tail
  have hc : countsB X m := Decidable.byContradiction fun x => by rw [hq.2 x] at hqf; cases hqf
  rw [if_neg fun x => x hc] at hR
  obtain ⟨c1, c2, c3, c4, c5, c6, c7, c8, _, _⟩ := hc
  refine ldM0 H m.kind rfl (br beq_iff_eq (fun k1 => ?_) fun k1 => ?_)
  · rw [if_pos k1] at hR
    exact ldAll H (raft_askPreS H (by omega) (by omega) fun h2 H => hR _ H.tail)
  rw [if_neg k1] at hR
  refine br beq_iff_eq (fun k2 => ?_) fun k2 => ?_
  · rw [if_pos k2] at hR
    exact ldAll H (raft_tellPreS H hb hc0 ht hv ⟨c3, by omega⟩ (by omega) fun h2 H => hR _ H.tail)
  rw [if_neg k2] at hR
  refine ldM (j := 3) H m.term rfl (nn (ldR_ok (j := 4) H X.term (fun _ _ => rfl) ?_))
  refine join0 (fun h2 => RaftAt h0 h2 d (rNewer X m) (.blk b 59 (mcS m sm) :: F)) (fun _ h2 H => ?_) ?_
  rotate_left
  · unfold rNewer
    refine brD (fun h3 => ?_) fun h3 => ?_
    · rw [if_pos h3]
      exact ldM (j := 3) H m.term rfl (raft_follow_ok H fun h4 H => H)
    · rw [if_neg h3]; exact H
  obtain ⟨e1, e2, e3, e4, e5, e6, e7, e8, e9⟩ := rNewer_same X m
  have hb2 := hb.of e1 e2 e3 e4
  refine ldM (j := 3) H m.term rfl (nn (ldR_ok (j := 4) H (rNewer X m).term (fun _ _ => rfl) (brD (fun h3 => ?_) fun h3 => ?_)))
  · rw [if_pos h3] at hR
    refine ldM0 H m.kind rfl (br beq_iff_eq (fun k5 => ?_) fun k5 => ?_)
    · rw [if_pos k5] at hR
      refine ldM (j := 1) H m.from_ rfl ?_
      exact raft_told_ok H (by rw [e6]; omega) fun h4 H => hR _ H.tail
    · rw [if_neg k5] at hR
      exact hR _ H.tail
  rw [if_neg h3] at hR
  refine ldM0 H m.kind rfl (br beq_iff_eq (fun k3 => ?_) fun k3 => ?_)
  · rw [if_pos k3] at hR
    exact ldAll H (raft_askVoteS H (by rw [e4]; omega) (by rw [e6]; omega) fun h2 H => hR _ H.tail)
  rw [if_neg k3] at hR
  refine ldM0 H m.kind rfl (br beq_iff_eq (fun k4 => ?_) fun k4 => ?_)
  · rw [if_pos k4] at hR
    exact ldAll H (raft_tellVoteS H hb2 (by rw [e7]; exact hc0) (by rw [e8]; exact hv) ⟨c3, by omega⟩ (by rw [e6]; omega) fun h2 H => hR _ H.tail)
  rw [if_neg k4] at hR
  refine ldM0 H m.kind rfl (br beq_iff_eq (fun k5 => ?_) fun k5 => ?_)
  · rw [if_pos k5] at hR
    exact ldAll H (raft_appendS H hb2 E he8 hm.i (by rw [e7]; exact hc0) (by rw [e6]; omega) fun h2 H => hR _ H.tail)
  · rw [if_neg k5] at hR
    exact ldAll H (raft_hearsS (k := m.from_.toNat) H hb2 (by rw [e7]; exact hc0) (by rw [e9]; exact hh) (by rw [e5]; exact hmt) (by omega) (by omega) (by rw [e6]; omega) fun h2 H => hR _ H.tail)
end
end Go.Proofs.YtniojdaddolnfaaGreat

/-
  CRC-32C over plain numbers: bit by bit, byte by byte, by a table; a byte that is another one, or a register that is another one, gives another register.
-/
namespace Go.Proofs.YtniojdaddolnfaaGreat

def crcP : Nat := 2197175160
def crcBit (r : Nat) : Nat := if r % 2 = 1 then (r / 2) ^^^ crcP else r / 2
def crcN : Nat → Nat → Nat
  | 0, r => r
  | n + 1, r => crcN n (crcBit r)
def crcByte (r : Nat) : Nat := crcN 8 r
def crcReg (r : Nat) (l : List UInt8) : Nat := l.foldl (fun r c => crcByte (r ^^^ c.toNat)) r
def crcOf (l : List UInt8) : Nat := 4294967295 - crcReg 4294967295 l

theorem xor_div2 (a b : Nat) : (a ^^^ b) / 2 = (a / 2) ^^^ (b / 2) := by
  have := Nat.shiftRight_xor_distrib (a := a) (b := b) (i := 1)
  simpa [Nat.shiftRight_eq_div_pow] using this
theorem xor_mod2 (a b : Nat) : (a ^^^ b) % 2 = ((a % 2) ^^^ (b % 2)) := by
  have := Nat.xor_mod_two_pow (a := a) (b := b) (n := 1)
  simpa using this
theorem crcBit_xor (a b : Nat) : crcBit (a ^^^ b) = crcBit a ^^^ crcBit b := by
  unfold crcBit
  rw [xor_div2, xor_mod2]
  rcases Nat.mod_two_eq_zero_or_one a with ha | ha <;> rcases Nat.mod_two_eq_zero_or_one b with hb | hb <;> rw [ha, hb]
  · simp
  · simp [Nat.xor_assoc]
  · simp only [Nat.xor_zero, if_true, Nat.zero_ne_one, if_false]
    rw [Nat.xor_assoc, Nat.xor_assoc, Nat.xor_comm crcP]
  · simp only [Nat.xor_self, if_true, Nat.zero_ne_one, if_false]
    rw [Nat.xor_assoc, ← Nat.xor_assoc crcP, Nat.xor_comm crcP, Nat.xor_assoc, Nat.xor_self, Nat.xor_zero]
theorem crcN_xor : ∀ (n a b : Nat), crcN n (a ^^^ b) = crcN n a ^^^ crcN n b
  | 0, _, _ => rfl
  | n + 1, a, b => by rw [crcN, crcBit_xor, crcN_xor n]; rfl
theorem crcN_shift : ∀ (n a : Nat), crcN n (a * 2 ^ n) = a
  | 0, a => by simp [crcN]
  | n + 1, a => by
    have e : a * 2 ^ (n + 1) = a * 2 ^ n * 2 := by rw [Nat.pow_succ, Nat.mul_assoc]
    rw [crcN, crcBit, e, if_neg (by rw [Nat.mul_mod_left]; decide), Nat.mul_div_cancel _ (by decide), crcN_shift n a]
theorem crcBit_lt {r : Nat} (h : r < 2 ^ 32) : crcBit r < 2 ^ 32 := by
  unfold crcBit
  split
  · exact Nat.xor_lt_two_pow (by omega) (by decide)
  · omega
theorem crcN_lt : ∀ (n r : Nat), r < 2 ^ 32 → crcN n r < 2 ^ 32
  | 0, _, h => h
  | n + 1, _, h => crcN_lt n _ (crcBit_lt h)
theorem crcByte_lt {r : Nat} (h : r < 2 ^ 32) : crcByte r < 2 ^ 32 := crcN_lt 8 r h
theorem byte_lt32 (c : UInt8) : c.toNat < 2 ^ 32 := Nat.lt_of_lt_of_le c.toNat_lt (by decide)
theorem crcReg_lt : ∀ (l : List UInt8) {r : Nat}, r < 2 ^ 32 → crcReg r l < 2 ^ 32
  | [], _, h => h
  | c :: l, r, h => by
    show crcReg (crcByte (r ^^^ c.toNat)) l < _
    exact crcReg_lt l (crcByte_lt (Nat.xor_lt_two_pow h (byte_lt32 c)))
theorem crcReg_append (r : Nat) (a b : List UInt8) : crcReg r (a ++ b) = crcReg (crcReg r a) b := by simp [crcReg]
/-- By a table: the lowest byte is looked up, the rest goes down by eight. -/
theorem crcByte_table (r c : Nat) : crcByte (r ^^^ c) = (r / 256) ^^^ crcByte ((r % 256) ^^^ c) := by
  have e : r = (r / 256 * 2 ^ 8) ^^^ (r % 256) := by
    have h1 := Nat.shiftLeft_add_eq_or_of_lt (a := r / 256) (i := 8) (b := r % 256) (Nat.mod_lt _ (by decide))
    rw [Nat.shiftLeft_eq] at h1
    have h2 : (r / 256 * 2 ^ 8) ||| (r % 256) = (r / 256 * 2 ^ 8) ^^^ (r % 256) := by
      apply Nat.eq_of_testBit_eq
      intro i
      rw [Nat.testBit_or, Nat.testBit_xor]
      by_cases hi : i < 8
      · have : (r / 256 * 2 ^ 8).testBit i = false := by rw [Nat.testBit_mul_two_pow]; simp; omega
        rw [this]; simp
      · have : (r % 256).testBit i = false := Nat.testBit_lt_two_pow (Nat.lt_of_lt_of_le (Nat.mod_lt _ (by decide)) (Nat.le_trans (show 256 ≤ 2 ^ 8 by decide) (Nat.pow_le_pow_right (by decide) (by omega))))
        rw [this]; simp
    rw [← h2, ← h1]; omega
  conv => lhs; rw [e]
  rw [Nat.xor_assoc]
  show crcN 8 _ = _
  rw [crcN_xor, crcN_shift]
  rfl
theorem xor_all {r : Nat} (h : r < 2 ^ 32) : 4294967295 ^^^ r = 4294967295 - r := by
  have h1 := BitVec.xor_allOnes (x := BitVec.ofNat 32 r)
  have h2 := congrArg BitVec.toNat h1
  rw [BitVec.toNat_xor, BitVec.toNat_not, BitVec.toNat_ofNat, Nat.mod_eq_of_lt h, BitVec.toNat_allOnes] at h2
  rw [Nat.xor_comm]
  simpa using h2
/-! ## Another byte, another sum -/
theorem xor_inj {a b c : Nat} (h : a ^^^ c = b ^^^ c) : a = b := by
  have := congrArg (· ^^^ c) h
  simpa [Nat.xor_assoc] using this
theorem xor_inj' {a b c : Nat} (h : c ^^^ a = c ^^^ b) : a = b := xor_inj (by rwa [Nat.xor_comm c, Nat.xor_comm c] at h)
theorem crcBit_inj {a b : Nat} (ha : a < 2 ^ 32) (hb : b < 2 ^ 32) (h : crcBit a = crcBit b) : a = b := by
  have top : ∀ x : Nat, x < 2 ^ 32 → (x / 2).testBit 31 = false := fun x hx => Nat.testBit_lt_two_pow (by omega)
  have hp : crcP.testBit 31 = true := by decide
  have key := congrArg (fun x => Nat.testBit x 31) h
  unfold crcBit at h key
  rcases Nat.mod_two_eq_zero_or_one a with h0 | h0 <;> rcases Nat.mod_two_eq_zero_or_one b with h1 | h1 <;> simp only [h0, h1, if_true, Nat.zero_ne_one, if_false] at h key
  · omega
  · rw [Nat.testBit_xor, top a ha, top b hb, hp] at key; simp at key
  · rw [Nat.testBit_xor, top a ha, top b hb, hp] at key; simp at key
  · have := xor_inj h; omega
theorem crcN_inj : ∀ (n : Nat) {a b : Nat}, a < 2 ^ 32 → b < 2 ^ 32 → crcN n a = crcN n b → a = b
  | 0, _, _, _, _, h => h
  | n + 1, _, _, ha, hb, h => crcBit_inj ha hb (crcN_inj n (crcBit_lt ha) (crcBit_lt hb) h)
theorem crcReg_inj : ∀ (l : List UInt8) {a b : Nat}, a < 2 ^ 32 → b < 2 ^ 32 → crcReg a l = crcReg b l → a = b
  | [], _, _, _, _, h => h
  | c :: l, a, b, ha, hb, h => by
    have hc := byte_lt32 c
    exact xor_inj (crcN_inj 8 (Nat.xor_lt_two_pow ha hc) (Nat.xor_lt_two_pow hb hc) (crcReg_inj l (crcByte_lt (Nat.xor_lt_two_pow ha hc)) (crcByte_lt (Nat.xor_lt_two_pow hb hc)) h))
/-- One byte that is another one. -/
theorem crcReg_turn {r : Nat} (hr : r < 2 ^ 32) (a b : List UInt8) (c d : UInt8) (h : crcReg r (a ++ c :: b) = crcReg r (a ++ d :: b)) : c = d := by
  rw [crcReg_append, crcReg_append] at h
  have h1 := crcReg_lt a hr
  have hc := Nat.xor_lt_two_pow h1 (byte_lt32 c)
  have hd := Nat.xor_lt_two_pow h1 (byte_lt32 d)
  have h2 := crcReg_inj b (crcByte_lt hc) (crcByte_lt hd) h
  have h3 := xor_inj' (crcN_inj 8 hc hd h2)
  exact UInt8.toNat_inj.1 h3
theorem crcOf_turn (a b : List UInt8) (c d : UInt8) (h : crcOf (a ++ c :: b) = crcOf (a ++ d :: b)) : c = d := by
  have hx : ∀ l, crcReg 4294967295 l < 2 ^ 32 := fun l => crcReg_lt l (by decide)
  unfold crcOf at h
  have h1 := hx (a ++ c :: b)
  have h2 := hx (a ++ d :: b)
  exact crcReg_turn (r := 4294967295) (by decide) a b c d (by omega)
theorem crcOf_lt (l : List UInt8) : crcOf l < 4294967296 := by unfold crcOf; omega
/-- A sum's bytes, the lowest first. -/
def le4 (n : Nat) : List UInt8 := [UInt8.ofNat n, UInt8.ofNat (n / 256), UInt8.ofNat (n / 65536), UInt8.ofNat (n / 16777216)]
theorem ofNat_inj {a b : Nat} (h : UInt8.ofNat a = UInt8.ofNat b) : a % 256 = b % 256 := by
  have := congrArg UInt8.toNat h
  simpa using this
theorem le4_inj {a b : Nat} (ha : a < 4294967296) (hb : b < 4294967296) (h : le4 a = le4 b) : a = b := by
  simp only [le4, List.cons.injEq, and_true] at h
  obtain ⟨h0, h1, h2, h3⟩ := h
  have := ofNat_inj h0; have := ofNat_inj h1; have := ofNat_inj h2; have := ofNat_inj h3
  omega
end Go.Proofs.YtniojdaddolnfaaGreat

/-
  Layer 3 (frame), over plain lists: a payload's frame, what bytes tell, and what a turned byte does.
-/
namespace Go.Proofs.YtniojdaddolnfaaGreat

def eForm : Int := 2
def eCheck : Int := 3
def eLong : Int := 4
def hiB (p : List UInt8) : UInt8 := UInt8.ofNat (p.length / 256)
def loB (p : List UInt8) : UInt8 := UInt8.ofNat p.length
def frameM (p : List UInt8) : List UInt8 := hiB p :: loB p :: (255 - hiB p) :: (255 - loB p) :: (p ++ le4 (crcOf p))
def takeM : List UInt8 → List UInt8 × Nat × Int
  | a :: b :: c :: d :: r =>
    if a.toNat + c.toNat = 255 ∧ b.toNat + d.toNat = 255 then
      if 4096 < a.toNat * 256 + b.toNat then ([], 0, eLong)
      else if r.length < a.toNat * 256 + b.toNat + 4 then ([], 0, eForm)
      else if le4 (crcOf (r.take (a.toNat * 256 + b.toNat))) = (r.drop (a.toNat * 256 + b.toNat)).take 4 then (r.take (a.toNat * 256 + b.toNat), a.toNat * 256 + b.toNat + 8, 0)
      else ([], 0, eCheck)
    else ([], 0, eCheck)
  | _ => ([], 0, eForm)
def wholeM (l : List UInt8) : List UInt8 × Int := if (takeM l).2.2 = 0 ∧ (takeM l).2.1 < l.length then ([], eForm) else ((takeM l).1, (takeM l).2.2)
def allM (l : List UInt8) : Nat → List (List UInt8) → Nat → List (List UInt8) × Nat × Int
  | 0, ps, at_ => (ps, at_, 0)
  | f + 1, ps, at_ =>
    if at_ < l.length then
      if (takeM (l.drop at_)).2.2 ≠ 0 then (ps, at_, (takeM (l.drop at_)).2.2) else allM l f (ps ++ [(takeM (l.drop at_)).1]) (at_ + (takeM (l.drop at_)).2.1)
    else (ps, at_, 0)

theorem takeM_cons (a b c d : UInt8) (r : List UInt8) : takeM (a :: b :: c :: d :: r) =
    if a.toNat + c.toNat = 255 ∧ b.toNat + d.toNat = 255 then
      if 4096 < a.toNat * 256 + b.toNat then ([], 0, eLong)
      else if r.length < a.toNat * 256 + b.toNat + 4 then ([], 0, eForm)
      else if le4 (crcOf (r.take (a.toNat * 256 + b.toNat))) = (r.drop (a.toNat * 256 + b.toNat)).take 4 then (r.take (a.toNat * 256 + b.toNat), a.toNat * 256 + b.toNat + 8, 0)
      else ([], 0, eCheck)
    else ([], 0, eCheck) := rfl
theorem takeM_err {l : List UInt8} (h : (takeM l).2.2 ≠ 0) : (takeM l).1 = [] ∧ (takeM l).2.1 = 0 := by
  revert h
  unfold takeM
  split
  · split
    · split
      · intro _; exact ⟨rfl, rfl⟩
      · split
        · intro _; exact ⟨rfl, rfl⟩
        · split
          · intro h; exact absurd rfl h
          · intro _; exact ⟨rfl, rfl⟩
    · intro _; exact ⟨rfl, rfl⟩
  · intro _; exact ⟨rfl, rfl⟩
theorem takeM_ok {l : List UInt8} (h : (takeM l).2.2 = 0) : 8 ≤ (takeM l).2.1 ∧ (takeM l).2.1 ≤ l.length ∧ (takeM l).1.length + 8 = (takeM l).2.1 ∧ (takeM l).1.length ≤ 4096 := by
  revert h
  unfold takeM
  split
  · split
    · split
      · intro h; exact absurd h (by decide)
      · split
        · intro h; exact absurd h (by decide)
        · split
          · intro _
            simp only [List.length_cons, List.length_take]
            omega
          · intro h; exact absurd h (by decide)
    · intro h; exact absurd h (by decide)
  · intro h; exact absurd h (by decide)
theorem takeM_short' {l : List UInt8} (h : l.length < 4) : takeM l = ([], 0, eForm) := by
  match l, h with
  | [], _ => rfl
  | [_], _ => rfl
  | [_, _], _ => rfl
  | [_, _, _], _ => rfl
theorem sub255 (x : UInt8) : (255 - x).toNat = 255 - x.toNat := by
  have hx := x.toNat_lt
  rw [UInt8.toNat_sub]
  have : (255 : UInt8).toNat = 255 := rfl
  omega
theorem hi_nat {p : List UInt8} (h : p.length < 65536) : (hiB p).toNat = p.length / 256 := by simp [hiB]; omega
theorem lo_nat (p : List UInt8) : (loB p).toNat = p.length % 256 := by simp [loB]
theorem le4_length (n : Nat) : (le4 n).length = 4 := rfl
/-- A frame's four first bytes, then anything: what is told is told by what stands behind. -/
theorem takeM_head (p : List UInt8) (r : List UInt8) (h : p.length ≤ 4096) : takeM (hiB p :: loB p :: (255 - hiB p) :: (255 - loB p) :: r) =
    if r.length < p.length + 4 then ([], 0, eForm)
    else if le4 (crcOf (r.take p.length)) = (r.drop p.length).take 4 then (r.take p.length, p.length + 8, 0) else ([], 0, eCheck) := by
  have h1 := hi_nat (p := p) (by omega)
  have h2 := lo_nat p
  have e : (hiB p).toNat * 256 + (loB p).toNat = p.length := by omega
  rw [takeM_cons, sub255, sub255, e]
  rw [if_pos (by omega), if_neg (by omega)]
theorem frameM_length (p : List UInt8) : (frameM p).length = p.length + 8 := by simp [frameM, le4_length]
theorem takeM_frame (p r : List UInt8) (h : p.length ≤ 4096) : takeM (frameM p ++ r) = (p, p.length + 8, 0) := by
  unfold frameM
  simp only [List.cons_append]
  rw [takeM_head p _ h, if_neg (by simp [le4_length])]
  have e1 : (p ++ le4 (crcOf p) ++ r).take p.length = p := by rw [List.append_assoc, List.take_left]
  have e2 : ((p ++ le4 (crcOf p) ++ r).drop p.length).take 4 = le4 (crcOf p) := by
    rw [List.append_assoc, List.drop_left]
    have : (le4 (crcOf p)).length = 4 := rfl
    rw [← this, List.take_left]
  rw [e1, e2, if_pos rfl]
/-- A part of a frame. -/
theorem takeM_part (p : List UInt8) (i : Nat) (h : p.length ≤ 4096) (hi : i < p.length + 8) : takeM ((frameM p).take i) = ([], 0, eForm) := by
  unfold frameM
  rcases i with _ | _ | _ | _ | i
  · rfl
  · rfl
  · rfl
  · rfl
  · simp only [List.take_succ_cons]
    rw [takeM_head p _ h, if_pos (by simp [le4_length]; omega)]
/-- A frame of which one byte is another one. -/
theorem takeM_turn (p r : List UInt8) (i : Nat) (v : UInt8) (h : p.length ≤ 4096) (hi : i < (frameM p).length) (hv : (frameM p)[i]? ≠ some v) : (takeM ((frameM p).set i v ++ r)).2.2 ≠ 0 := by
  have h1 := hi_nat (p := p) (by omega)
  have h2 := lo_nat p
  have ne : ∀ {x y : UInt8}, some x ≠ some y → x.toNat ≠ y.toNat := fun hxy e => hxy (congrArg some (UInt8.toNat_inj.1 e))
  have s1 := sub255 (hiB p)
  have s2 := sub255 (loB p)
  have l1 := (hiB p).toNat_lt
  have l2 := (loB p).toNat_lt
  rw [frameM_length] at hi
  unfold frameM at hv ⊢
  rcases i with _ | _ | _ | _ | i
  · simp only [List.getElem?_cons_zero] at hv
    simp only [List.set_cons_zero, List.cons_append]
    rw [takeM_cons, if_neg (by have := ne hv; omega)]; decide
  · simp only [List.getElem?_cons_succ, List.getElem?_cons_zero] at hv
    simp only [List.set_cons_succ, List.set_cons_zero, List.cons_append]
    rw [takeM_cons, if_neg (by have := ne hv; omega)]; decide
  · simp only [List.getElem?_cons_succ, List.getElem?_cons_zero] at hv
    simp only [List.set_cons_succ, List.set_cons_zero, List.cons_append]
    rw [takeM_cons, if_neg (by have := ne hv; omega)]; decide
  · simp only [List.getElem?_cons_succ, List.getElem?_cons_zero] at hv
    simp only [List.set_cons_succ, List.set_cons_zero, List.cons_append]
    rw [takeM_cons, if_neg (by have := ne hv; omega)]; decide
  · simp only [List.getElem?_cons_succ] at hv
    simp only [List.set_cons_succ, List.cons_append]
    rw [takeM_head p _ h, if_neg (by simp [le4_length])]
    by_cases hip : i < p.length
    · rw [List.getElem?_append_left hip, List.getElem?_eq_getElem hip] at hv
      rw [List.set_append_left _ _ hip]
      have hl : (p.set i v).length = p.length := List.length_set
      have e1 : (p.set i v ++ le4 (crcOf p) ++ r).take p.length = p.set i v := by rw [List.append_assoc, ← hl, List.take_left]
      have e2 : ((p.set i v ++ le4 (crcOf p) ++ r).drop p.length).take 4 = le4 (crcOf p) := by
        rw [List.append_assoc, ← hl, List.drop_left]
        have : (le4 (crcOf p)).length = 4 := rfl
        rw [← this, List.take_left]
      rw [e1, e2, if_neg]
      · decide
      · intro e
        have e := le4_inj (crcOf_lt _) (crcOf_lt _) e
        have h3 : p = p.take i ++ p[i] :: p.drop (i + 1) := by rw [← List.drop_eq_getElem_cons hip, List.take_append_drop]
        have h4 : p.set i v = p.take i ++ v :: p.drop (i + 1) := by rw [List.set_eq_take_append_cons_drop, if_pos hip]
        rw [h4] at e
        conv at e => rhs; rw [h3]
        exact hv (congrArg some (crcOf_turn _ _ _ _ e).symm)
    · have hj : i - p.length < (le4 (crcOf p)).length := by rw [le4_length]; omega
      rw [List.getElem?_append_right (by omega)] at hv
      rw [List.set_append_right _ _ (by omega)]
      have e1 : (p ++ (le4 (crcOf p)).set (i - p.length) v ++ r).take p.length = p := by rw [List.append_assoc, List.take_left]
      have e2 : ((p ++ (le4 (crcOf p)).set (i - p.length) v ++ r).drop p.length).take 4 = (le4 (crcOf p)).set (i - p.length) v := by
        rw [List.append_assoc, List.drop_left]
        have : ((le4 (crcOf p)).set (i - p.length) v).length = 4 := by rw [List.length_set]; rfl
        rw [← this, List.take_left]
      rw [e1, e2, if_neg]
      · decide
      · intro e
        have e3 := congrArg (fun x => x[i - p.length]?) e
        simp only [List.getElem?_set_self hj] at e3
        exact hv e3
end Go.Proofs.YtniojdaddolnfaaGreat

/- Printed by a program: what each function asks of the heap, that this is the reading of its code, and what follows for a call. -/
set_option maxRecDepth 1000000
namespace Go.Proofs.YtniojdaddolnfaaGreat
open Go

/-- bytes.Clone -/
def S_bytes_Clone (b : Sl) (h : Heap) (R : Sl → Heap → Prop) : Prop :=
  (bif b.a.isNone then
    R ⟨none, 0, 0⟩ h
  else
    Alloc h (.cells #[] 5) fun b1 h_ =>
    App Tryz.prog 75 75 ⟨some b1, 0, 0⟩ b h_ fun s h_1 =>
    R s h_1
  )
theorem E_bytes_Clone (b : Sl) (h : Heap) (R : Sl → Heap → Prop) :
    VF Tryz.prog [] Tryz.f89 [.slice b.a b.n b.c] h [.one .sl] R = S_bytes_Clone b h R := by kernel_rfl
theorem A_bytes_Clone {b : Sl} {h : Heap} {R : Sl → Heap → Prop} (hs : S_bytes_Clone b h R) : C_bytes_Clone b h R :=
  use_ Tryz.func89 (by kernel_rfl) (E_bytes_Clone b h R) hs

end Go.Proofs.YtniojdaddolnfaaGreat

/-
  bytes.Clone's contract; bytes' own small rules.
-/
namespace Go.Proofs.YtniojdaddolnfaaGreat
open Go

theorem TB1 : ElemT Tryz.prog 75 5 1 1 := .of (by kernel_rfl)
theorem rd_b {h : Heap} {s : Sl} {l : List UInt8} (hr : RdS h 1 s (cB l)) : s.n = l.length := by have := hr.1; rw [cB_length] at this; omega
/-- What is read stays, where a step turns none of its blocks; an empty one has none. -/
theorem RdS.upd' {F : Nat → Prop} {h h' : Heap} {sz : Nat} {s : Sl} {xs : List Value} (hr : RdS h sz s xs) (he : Upd F h h') (hb : 0 < xs.length → ∀ g, s.blk = some g → ¬ F g) : RdS h' sz s xs := by
  by_cases hp : 0 < xs.length
  · exact hr.upd he (hb hp)
  · exact ⟨hr.1, fun h0 => absurd h0 hp⟩
theorem bytes_Clone_ok {h : Heap} {b : Sl} {xs : List UInt8} {R : Sl → Heap → Prop} (hb : RdS h 1 b (cB xs)) (hx : xs.length ≤ 1000000000000) (hR : ∀ r h', Own h' 1 r (cB xs) → r.from_ h.size → Ext h.size h h' → R r h') : C_bytes_Clone b h R := by
  refine A_bytes_Clone ?_
  unfold S_bytes_Clone
  have hbn := rd_b hb
  refine brB (fun hn => ?_) fun hn => ?_
  · have ha : b.a = none := by simpa using hn
    have hx0 : xs = [] := by
      apply List.eq_nil_of_length_eq_zero
      apply Nat.eq_zero_of_not_pos
      intro hp
      obtain ⟨g, o, ha', _⟩ := hb.2 (by rw [cB_length]; exact hp)
      rw [ha] at ha'; cases ha'
    subst hx0
    exact hR _ h (Own.nil _ _) (fun g hg => by simp [Sl.blk] at hg) (Ext.refl _ _)
  · refine alloc (cs := cB []) fun h2 b2 e2 z2 => ?_
    have o2 : Own h2 1 ⟨some ⟨h.size, 0, none⟩, 0, 0⟩ (cB []) := Own.full b2 (sz := 1) (n := 0) (by rfl) (by decide)
    refine app TB1 o2 (hb.ext' e2) cB_one (by show (0 + b.n) * 1 ≤ _; omega) (by show 0 + b.n ≤ _; omega) fun s3 h3 o3 n3 u3 b3 => ?_
    have hf3 : s3.from_ h.size := by
      rcases b3 with e | e
      · intro g hg; rw [e] at hg; simp [Sl.blk] at hg; omega
      · intro g hg; have := e g hg; omega
    rw [← cB_append] at o3
    exact hR s3 h3 o3 hf3 (e2.trans (u3.ext (by omega) fun g hg e => by simp [Sl.blk] at e; omega))
/-- Bytes appended to bytes. -/
theorem appB {h : Heap} {s x : Sl} {xs ys : List UInt8} {ty : TypeId} {K : Sl → Heap → Prop} (ho : Own h 1 s (cB xs)) (hx : RdS h 1 x (cB ys)) (hlen : xs.length + ys.length ≤ 140737488355328)
    (hk : ∀ s' h', Own h' 1 s' (cB (xs ++ ys)) → Grw h s h' s' → K s' h') : App Tryz.prog 75 ty s x h K := by
  have e1 := rd_b ho.rd
  have e2 := rd_b hx
  refine app TB1 ho hx cB_one (by omega) (by omega) fun s' h' o n u b => hk s' h' ?_ ⟨u, b⟩
  rwa [cB_append]
theorem appBo {h : Heap} {s x : Sl} {xs ys : List UInt8} {ty : TypeId} {K : Sl → Heap → Prop} (ho : Own h 1 s (cB xs)) (hx : RdS h 1 x (cB ys)) (hlen : xs.length + ys.length ≤ 140737488355328)
    (hk : ∀ s' h', Own h' 1 s' (cB (xs ++ ys)) → Grw h s h' s' → RdS h' 1 s (cB xs) → K s' h') : App Tryz.prog 75 ty s x h K := by
  have e1 := rd_b ho.rd
  have e2 := rd_b hx
  refine app_old TB1 ho hx cB_one (by omega) (by omega) fun s' h' o n u b q => hk s' h' ?_ ⟨u, b⟩ q
  rwa [cB_append]
/-- 'append([]byte{}, x...)'. -/
theorem appE {h : Heap} {x : Sl} {ys : List UInt8} {ty : TypeId} {K : Sl → Heap → Prop} (hx : RdS h 1 x (cB ys)) (hlen : ys.length ≤ 140737488355328)
    (hk : ∀ s' h', Own h' 1 s' (cB ys) → s'.from_ h.size → Ext h.size h h' → K s' h') : Alloc h (.cells #[] 5) fun b h1 => App Tryz.prog 75 ty ⟨some b, 0, 0⟩ x h1 K := by
  refine alloc (cs := cB []) fun h2 b2 e2 z2 => ?_
  have o2 : Own h2 1 ⟨some ⟨h.size, 0, none⟩, 0, 0⟩ (cB []) := Own.full b2 (sz := 1) (n := 0) (by rfl) (by decide)
  refine appB o2 (hx.ext' e2) (by simpa using hlen) fun s3 h3 o3 g3 => hk s3 h3 (by rwa [List.nil_append] at o3) ?_ ?_
  · rcases g3.blk with e | e
    · intro g hg; rw [e] at hg; simp [Sl.blk] at hg; omega
    · intro g hg; have := e g hg; omega
  · exact e2.trans (g3.upd.ext (by omega) fun g hg e => by simp [Sl.blk] at e; omega)
/-- A literal of bytes. -/
theorem litB {h : Heap} (xs : List UInt8) {K : Addr → Heap → Prop} (hk : ∀ h', Own h' 1 ⟨some ⟨h.size, 0, none⟩, xs.length, xs.length⟩ (cB xs) → Ext h.size h h' → h'.size = h.size + 1 → K ⟨h.size, 0, none⟩ h') (hm : xs.length ≤ 9223372036854775807) :
    Alloc h (.cells (cB xs).toArray 5) K :=
  alloc fun h' b e z => hk h' (Own.full b (sz := 1) (n := xs.length) (by rw [cB_length, Nat.mul_one]) hm) e z
theorem cutB {s : Sl} {h : Heap} {l : List UInt8} {lo hi mx : Option Value} {K : Sl → Prop} (hr : RdS h 1 s (cB l)) (a b m : Nat) (hlo : LoIs lo a) (hhi : HiIs hi s.n b)
    (hmx : (mx = none ∧ m = s.c) ∨ (HiIs mx s.c m ∧ hi ≠ none)) (h1 : a ≤ b) (hu : b ≤ l.length) (h2 : b ≤ m) (h3 : m ≤ s.c)
    (hk : ∀ s', RdS h 1 s' (cB ((l.drop a).take (b - a))) → s'.n = b - a → s'.c = m - a → s'.blk = s.blk → K s') : Cut Tryz.prog 75 s lo hi mx K := by
  refine cut_rd TB1 hr a b m hlo hhi hmx h1 (by rw [rd_b hr]; exact hu) h2 h3 fun s' r n c bl => hk s' ?_ n c bl
  rwa [Nat.mul_one, Nat.mul_one, cB_drop, cB_take] at r
theorem cutBO {s : Sl} {h : Heap} {l : List UInt8} {lo hi mx : Option Value} {K : Sl → Prop} (hr : Own h 1 s (cB l)) (a b m : Nat) (hlo : LoIs lo a) (hhi : HiIs hi s.n b)
    (hmx : (mx = none ∧ m = s.c) ∨ (HiIs mx s.c m ∧ hi ≠ none)) (h1 : a ≤ b) (hu : b ≤ l.length) (h2 : b ≤ m) (h3 : m ≤ s.c)
    (hk : ∀ s', Own h 1 s' (cB ((l.drop a).take (b - a))) → s'.n = b - a → s'.c = m - a → s'.blk = s.blk → K s') : Cut Tryz.prog 75 s lo hi mx K := by
  refine cut_own TB1 hr a b m hlo hhi hmx h1 (by rw [rd_b hr.rd]; exact hu) h2 h3 fun s' r n c bl => hk s' ?_ n c bl
  rwa [Nat.mul_one, Nat.mul_one, cB_drop, cB_take] at r
end Go.Proofs.YtniojdaddolnfaaGreat

/-
  sync.Once in a run of one goroutine: its lock, its two deferred calls, the slow road.
-/
namespace Go.Proofs.YtniojdaddolnfaaGreat
open Go

theorem once_disable (w : World) : (callFunc 143 #[]).run Tryz.prog w = .ok (.value (.tuple #[])) w := run_call_mark0 Tryz.func143 (by kernel_rfl) (by kernel_rfl) (by kernel_rfl) .disable (by kernel_rfl) w
theorem once_enable (w : World) : (callFunc 145 #[]).run Tryz.prog w = .ok (.value (.tuple #[])) w := run_call_mark0 Tryz.func145 (by kernel_rfl) (by kernel_rfl) (by kernel_rfl) .enable (by kernel_rfl) w
theorem once_acquire (a : Addr) (w : World) : (callFunc 146 #[.pointer (some a)]).run Tryz.prog w = .ok (.value (.tuple #[])) w := run_call_marked Tryz.func146 (by kernel_rfl) (by kernel_rfl) (by kernel_rfl) .acquire (by kernel_rfl) a w
theorem once_releaseMerge (a : Addr) (w : World) : (callFunc 148 #[.pointer (some a)]).run Tryz.prog w = .ok (.value (.tuple #[])) w := run_call_marked Tryz.func148 (by kernel_rfl) (by kernel_rfl) (by kernel_rfl) .releaseMerge (by kernel_rfl) a w
/-- '(*sync/atomic.Bool).Store(true)', entered as a deferred call: the cell holds 1. -/
theorem once_store_deferred (a : Addr) (x : Value) (u : FrameMode) (w : World) (hc : w.cell? a = some x) (hz : w.frozen? a = false) :
    CallsD Tryz.prog 138 #[.pointer (some a), .bool true] u w fun e u' w' => u' = u ∧ (e = .returned (.tuple #[]) ∧ w' = w.drew.setCell a (.int .u32 1)) := by
  have hc' : w.drew.cell? a = some x := by go_simp
  have hz' : w.drew.frozen? a = false := by go_simp
  have hst := run_call_store (P := Tryz.prog) Tryz.func141 (by kernel_rfl) (by kernel_rfl) (by kernel_rfl) (by kernel_rfl) (k := .u32) (y := 1) hc' hz'
  go_enter_d Tryz.func138, Tryz.ntmps138
  go_wp2
  go_region_calls
  all_goals (go_end0; exact ⟨rfl, rfl⟩)
set_option maxRecDepth 100000 in
/-- '(*sync.Mutex).Unlock', entered as a deferred call, the lock held and nobody waiting (state 1): state 0. -/
theorem once_unlock_deferred (a : Addr) (u : FrameMode) (w : World) (hc : w.cell? a = some (.int .i32 1)) (hz : w.frozen? a = false) :
    CallsD Tryz.prog 137 #[.pointer (some a)] u w fun e u' w' => u' = u ∧ (e = .returned (.tuple #[]) ∧ w' = w.setCell a (.int .i32 0)) := by
  have hd := once_disable
  have he := once_enable
  have hr := once_releaseMerge
  have hadd := run_call_add (P := Tryz.prog) Tryz.func149 (by kernel_rfl) (by kernel_rfl) (by kernel_rfl) .i32 (by kernel_rfl) (y := -1) (s := 0) hc hz (by simp [go_sem]; rfl)
  have hcv := run_convert_to_unsafe (P := Tryz.prog) (src := 192) (dst := 196) Tryz.underlying192 Tryz.underlying196 (by kernel_rfl) hc
  go_enter_d Tryz.func137, Tryz.ntmps137
  go_wp2
  go_end0
  go_wp2
  go_end0
  exact ⟨rfl, rfl⟩
set_option maxRecDepth 100000 in
/-- '(*sync.Mutex).Lock', the lock free (state 0): state 1. -/
theorem once_lock_free (a : Addr) (w : World) (hc : w.cell? a = some (.int .i32 0)) (hz : w.frozen? a = false) :
    Calls Tryz.prog 136 #[.pointer (some a)] w fun e w' => e = .returned (.tuple #[]) ∧ w' = w.setCell a (.int .i32 1) := by
  have hd := once_disable
  have he := once_enable
  have ha := once_acquire
  have hcas := run_call_cas_hit (P := Tryz.prog) Tryz.func144 (by kernel_rfl) (by kernel_rfl) (by kernel_rfl) .i32 (by kernel_rfl) (y := 1) hc hz
  have hc' : (w.setCell a (.int .i32 1)).cell? a = some (.int .i32 1) := World.cell?_setCell_same w a _ hc
  have hcv := run_convert_to_unsafe (P := Tryz.prog) (src := 192) (dst := 196) Tryz.underlying192 Tryz.underlying196 (by kernel_rfl) hc'
  go_enter Tryz.func136, Tryz.ntmps136
  go_wp2
  first | go_end0 | (simp only [Exit.inBlock, Exit.then]; refine bodyPost_ret (results_none rfl _ _ _) rfl ?_) | refine bodyPost_ret (results_none rfl _ _ _) rfl ?_
  go_wp2
  go_end0
  exact ⟨rfl, rfl⟩

set_option maxRecDepth 100000 in
set_option maxHeartbeats 1600000 in
/-- '(*sync.Once).doSlow', not yet done and the lock free: the lock is taken, the function is called, 'done' is stored, the lock is let go. -/
theorem once_slow (b off : Nat) (pt : Value) {Q : Heap → Prop} (w : World)
    (h0 : w.cell? ⟨b, off, none⟩ = some (.int .u32 0)) (h1 : w.cell? ⟨b, off + 1, none⟩ = some (.int .i32 0)) (f1 : w.frozen? ⟨b, off + 1, none⟩ = false)
    (hq : ∀ h, Q h → (cellH h ⟨b, off, none⟩).isSome = true ∧ frozenH h ⟨b, off, none⟩ = false ∧ cellH h ⟨b, off + 1, none⟩ = some (.int .i32 1) ∧ frozenH h ⟨b, off + 1, none⟩ = false)
    (hf : Calls Tryz.prog 132 #[pt] (w.setCell ⟨b, off + 1, none⟩ (.int .i32 1)) fun e w' => e = .returned (.tuple #[]) ∧ Env (w.setCell ⟨b, off + 1, none⟩ (.int .i32 1)) w' ∧ Q w'.heap) :
    Calls Tryz.prog 134 #[.pointer (some ⟨b, off, none⟩), .func (.func 132) #[pt] #[]] w fun e w' => e = .returned (.tuple #[]) ∧ Env w w' ∧
      ∃ h, Q h ∧ w'.heap = setH (setH h ⟨b, off, none⟩ (.int .u32 1)) ⟨b, off + 1, none⟩ (.int .i32 0) := by
  have hl := run_call_load (P := Tryz.prog) Tryz.func135 (by kernel_rfl) (by kernel_rfl) (by kernel_rfl) .u32 (by kernel_rfl) (w := w.setCell ⟨b, off + 1, none⟩ (.int .i32 1)) (a := ⟨b, off, none⟩) (x := 0) ((World.cell?_setCell_other _ ⟨b, off + 1, none⟩ ⟨b, off, none⟩ _ (by simp)).trans h0)
  have hnot : ∀ (x : Bool) (w : World), (Op.unary .not (.bool x)).run Tryz.prog w = .ok (.bool (!x)) w := fun _ _ => rfl
  go_enter_defers Tryz.func134, Tryz.ntmps134
  go_wp2_with (first | (go_at_call 136; refine (once_lock_free ⟨b, off + 1, none⟩ _ (by go_simp) (by go_simp)).mono ?_; rintro e w' ⟨rfl, rfl⟩) | (go_at_call 132; refine hf.mono ?_; rintro e w2 ⟨rfl, hE, hQ⟩) | (go_at_call 133; go_in))
  obtain ⟨q0, q1, q2, q3⟩ := hq _ hQ
  obtain ⟨x, hx⟩ := Option.isSome_iff_exists.1 q0
  -- the door: two deferred calls, the last laid first
  refine leaves_cons (f := 138) (args := #[.pointer (some ⟨b, off, none⟩), .bool true]) (by simp) (by simp [go_sem]) ?_
  refine (once_store_deferred ⟨b, off, none⟩ x .returning w2 hx q1).mono ?_
  rintro e u' w'' ⟨rfl, rfl, rfl⟩
  refine leaves_cons (f := 137) (args := #[.pointer (some ⟨b, off + 1, none⟩)]) (by simp [settle]) (by simp [go_sem]) ?_
  refine (once_unlock_deferred ⟨b, off + 1, none⟩ _ _ ?_ ?_).mono ?_
  · refine (World.cell?_setCell_other _ ⟨b, off, none⟩ ⟨b, off + 1, none⟩ _ (by simp)).trans ?_
    rw [World.cell?_drew]
    exact q2
  · rw [World.frozen?_setCell]; exact q3
  rintro e u' w'' ⟨rfl, rfl, rfl⟩
  simp only [Leaves, settle]
  refine ⟨_, results_none rfl _ _ _, rfl, Env.trans (b := w.setCell ⟨b, off + 1, none⟩ (.int .i32 1)) ⟨rfl, rfl, rfl⟩ (Env.trans hE ⟨rfl, rfl, rfl⟩), w2.heap, hQ, rfl⟩
end Go.Proofs.YtniojdaddolnfaaGreat

/- Printed by a program: what each function asks of the heap, that this is the reading of its code, and what follows for a call. -/
set_option maxRecDepth 1000000
namespace Go.Proofs.YtniojdaddolnfaaGreat
open Go

/-- crc.Check -/
def S_crc_Check (b : Sl) (sum : Sl) (h : Heap) (R : Bool → Heap → Prop) : Prop :=
  C_crc_Of b h fun (r : Int) h_ =>
  C_crc_Bytes r h_ fun (r1 : Sl) h_1 =>
  C_bytes_Equal r1 sum h_1 fun (r2 : Bool) h_2 =>
  R r2 h_2
theorem E_crc_Check (b : Sl) (sum : Sl) (h : Heap) (R : Bool → Heap → Prop) :
    VF Tryz.prog [] Tryz.f121 [.slice b.a b.n b.c, .slice sum.a sum.n sum.c] h [.one .bool] R = S_crc_Check b sum h R := by kernel_rfl
theorem A_crc_Check {b : Sl} {sum : Sl} {h : Heap} {R : Bool → Heap → Prop} (hs : S_crc_Check b sum h R) : C_crc_Check b sum h R :=
  use_ Tryz.func121 (by kernel_rfl) (E_crc_Check b sum h R) hs

/-- bytes.Equal -/
def S_bytes_Equal (a : Sl) (b : Sl) (h : Heap) (R : Bool → Heap → Prop) : Prop :=
  ToS Tryz.prog 75 9 a h fun str =>
  ToS Tryz.prog 75 9 b h fun str1 =>
  R (str.toList == str1.toList) h
theorem E_bytes_Equal (a : Sl) (b : Sl) (h : Heap) (R : Bool → Heap → Prop) :
    VF Tryz.prog [] Tryz.f125 [.slice a.a a.n a.c, .slice b.a b.n b.c] h [.one .bool] R = S_bytes_Equal a b h R := by kernel_rfl
theorem A_bytes_Equal {a : Sl} {b : Sl} {h : Heap} {R : Bool → Heap → Prop} (hs : S_bytes_Equal a b h R) : C_bytes_Equal a b h R :=
  use_ Tryz.func125 (by kernel_rfl) (E_bytes_Equal a b h R) hs

/-- crc.Bytes -/
def S_crc_Bytes (sum : Int) (h : Heap) (R : Sl → Heap → Prop) : Prop :=
  Loop [.one .sl, .one (.int .i64)] (fun _ (out : Sl) (x5 : Int) h_ go =>
    (bif decide (x5 < 4) then
      Nneg (IntKind.u64.wrap (IntKind.i64.wrap (8 * x5))) (
      Alloc h_ (.cells #[.int .u8 (IntKind.u8.wrap (shiftV .shr .u32 sum (IntKind.u64.wrap (IntKind.i64.wrap (8 * x5)))))] 5) fun b h_1 =>
      App Tryz.prog 75 75 out ⟨some b, 1, 1⟩ h_1 fun s h_2 =>
      go s (IntKind.i64.wrap (x5 + 1)) h_2
      )
    else
      R out h_
    )
    ) (⟨none, 0, 0⟩, 0, ()) h
theorem E_crc_Bytes (sum : Int) (h : Heap) (R : Sl → Heap → Prop) :
    VF Tryz.prog [(58, [(3, .one .sl), (5, .one (.int .i64))])] Tryz.f126 [.int .u32 sum] h [.one .sl] R = S_crc_Bytes sum h R := by kernel_rfl
theorem A_crc_Bytes {sum : Int} {h : Heap} {R : Sl → Heap → Prop} (hs : S_crc_Bytes sum h R) : C_crc_Bytes sum h R :=
  use_ Tryz.func126 (by kernel_rfl) (E_crc_Bytes sum h R) hs

/-- crc.Of -/
def S_crc_Of (b : Sl) (h : Heap) (R : Int → Heap → Prop) : Prop :=
  C_crc_New  h fun (r : Option Addr) h_ =>
  C_crc_Table_Sum r b h_ fun (r1 : Int) h_1 =>
  R r1 h_1
theorem E_crc_Of (b : Sl) (h : Heap) (R : Int → Heap → Prop) :
    VF Tryz.prog [] Tryz.f127 [.slice b.a b.n b.c] h [.one (.int .u32)] R = S_crc_Of b h R := by kernel_rfl
theorem A_crc_Of {b : Sl} {h : Heap} {R : Int → Heap → Prop} (hs : S_crc_Of b h R) : C_crc_Of b h R :=
  use_ Tryz.func127 (by kernel_rfl) (E_crc_Of b h R) hs

/-- crc.New -/
def S_crc_New  (h : Heap) (R : Option Addr → Heap → Prop) : Prop :=
  Alloc h (.cells (zc Tryz.prog 181) 181) fun p h_ =>
  R (some p) h_
theorem E_crc_New  (h : Heap) (R : Option Addr → Heap → Prop) :
    VF Tryz.prog [] Tryz.f128 [] h [.one .ptr] R = S_crc_New  h R := by kernel_rfl
theorem A_crc_New  {h : Heap} {R : Option Addr → Heap → Prop} (hs : S_crc_New  h R) : C_crc_New  h R :=
  use_ Tryz.func128 (by kernel_rfl) (E_crc_New  h R) hs

/-- (*crc.Table).Sum -/
def S_crc_Table_Sum (t : Option Addr) (b : Sl) (h : Heap) (R : Int → Heap → Prop) : Prop :=
  C_crc_Table_Add t 0 b h fun (r : Int) h_ =>
  R r h_
theorem E_crc_Table_Sum (t : Option Addr) (b : Sl) (h : Heap) (R : Int → Heap → Prop) :
    VF Tryz.prog [] Tryz.f129 [.pointer t, .slice b.a b.n b.c] h [.one (.int .u32)] R = S_crc_Table_Sum t b h R := by kernel_rfl
theorem A_crc_Table_Sum {t : Option Addr} {b : Sl} {h : Heap} {R : Int → Heap → Prop} (hs : S_crc_Table_Sum t b h R) : C_crc_Table_Sum t b h R :=
  use_ Tryz.func129 (by kernel_rfl) (E_crc_Table_Sum t b h R) hs

/-- (*crc.Table).Add -/
def S_crc_Table_Add (t : Option Addr) (sum : Int) (b : Sl) (h : Heap) (R : Int → Heap → Prop) : Prop :=
  (bif t.isNone then
    R 0 h
  else
    Nn t fun p =>
    C_sync_Once_Do (some p) (.func (.func 132) #[.pointer t] #[]) h fun h_ =>
    Let (bitV .xor .u32 4294967295 sum : Int) fun r =>
    Loop [.one (.int .u32), .one (.int .i64)] (fun _ (r1 : Int) (x22 : Int) h_1 go =>
      (bif decide (x22 < (b.n : Int)) then
        Ix b x22 1 fun e =>
        Ld (.int .u8) h_1 e fun (x : Int) =>
        Nneg 8 (
        Nn t fun p1 =>
        IxA (p1.add 4) 256 (bitV .xor .u8 (IntKind.u8.wrap r1) x) 1 fun e1 =>
        Ld (.int .u32) h_1 e1 fun (x1 : Int) =>
        Let (bitV .xor .u32 (shiftV .shr .u32 r1 8) x1 : Int) fun r2 =>
        go r2 (IntKind.i64.wrap (x22 + 1)) h_1
        )
      else
        R (bitV .xor .u32 4294967295 r1) h_1
      )
      ) (r, 0, ()) h_
  )
theorem E_crc_Table_Add (t : Option Addr) (sum : Int) (b : Sl) (h : Heap) (R : Int → Heap → Prop) :
    VF Tryz.prog [(250, [(7, .one (.int .u32)), (22, .one (.int .i64))])] Tryz.f130 [.pointer t, .int .u32 sum, .slice b.a b.n b.c] h [.one (.int .u32)] R = S_crc_Table_Add t sum b h R := by kernel_rfl
theorem A_crc_Table_Add {t : Option Addr} {sum : Int} {b : Sl} {h : Heap} {R : Int → Heap → Prop} (hs : S_crc_Table_Add t sum b h R) : C_crc_Table_Add t sum b h R :=
  use_ Tryz.func130 (by kernel_rfl) (E_crc_Table_Add t sum b h R) hs

/-- (*sync.Once).Do -/
def S_sync_Once_Do (o : Option Addr) (f : Value) (h : Heap) (R : Heap → Prop) : Prop :=
  Nn o fun p =>
  C_sync_atomic_Bool_Load (some p) h fun (r : Bool) h_ =>
  (bif !r then
    C_sync_Once_doSlow o f h_ fun h_1 =>
    R h_1
  else
    R h_
  )
theorem E_sync_Once_Do (o : Option Addr) (f : Value) (h : Heap) (R : Heap → Prop) :
    VF Tryz.prog [] Tryz.f131 [.pointer o, f] h [] R = S_sync_Once_Do o f h R := by kernel_rfl
theorem A_sync_Once_Do {o : Option Addr} {f : Value} {h : Heap} {R : Heap → Prop} (hs : S_sync_Once_Do o f h R) : C_sync_Once_Do o f h R :=
  use_ Tryz.func131 (by kernel_rfl) (E_sync_Once_Do o f h R) hs

/-- (*crc.Table).fill -/
def S_crc_Table_fill (t : Option Addr) (h : Heap) (R : Heap → Prop) : Prop :=
  Nn t fun p =>
  Ld (.int .i64) h (p.add 3) fun (made : Int) =>
  Nn t fun p1 =>
  St h (p1.add 3) (.int .i64 (IntKind.i64.wrap (made + 1))) fun h_ =>
  Loop [.one (.int .i64)] (fun _ (x12 : Int) h_1 go =>
    (bif decide (x12 < 256) then
      Let (IntKind.u32.wrap x12 : Int) fun r =>
      Loop [.one (.int .u32), .one (.int .i64)] (fun _ (r1 : Int) (x17 : Int) h_2 go1 =>
        (bif decide (x17 < 8) then
          Let (bitV .and .u32 r1 1 : Int) fun odd =>
          Nneg 1 (
          Let (shiftV .shr .u32 r1 1 : Int) fun r2 =>
          (bif odd == 1 then
            Let (bitV .xor .u32 r2 2197175160 : Int) fun r3 =>
            go1 r3 (IntKind.i64.wrap (x17 + 1)) h_2
          else
            go1 r2 (IntKind.i64.wrap (x17 + 1)) h_2
          )
          )
        else
          Nn t fun p2 =>
          IxA (p2.add 4) 256 x12 1 fun e =>
          St h_2 e (.int .u32 r1) fun h_3 =>
          go (IntKind.i64.wrap (x12 + 1)) h_3
        )
        ) (r, 0, ()) h_1
    else
      R h_1
    )
    ) (0, ()) h_
theorem E_crc_Table_fill (t : Option Addr) (h : Heap) (R : Heap → Prop) :
    VF Tryz.prog [(14, [(12, .one (.int .i64))]), (14746, [(3, .one (.int .u32)), (17, .one (.int .i64))])] Tryz.f132 [.pointer t] h [] R = S_crc_Table_fill t h R := by kernel_rfl
theorem A_crc_Table_fill {t : Option Addr} {h : Heap} {R : Heap → Prop} (hs : S_crc_Table_fill t h R) : C_crc_Table_fill t h R :=
  use_ Tryz.func132 (by kernel_rfl) (E_crc_Table_fill t h R) hs

/-- (*sync.atomic.Bool).Load -/
def S_sync_atomic_Bool_Load (x : Option Addr) (h : Heap) (R : Bool → Heap → Prop) : Prop :=
  Nn x fun p =>
  ExtR Tryz.prog 135 #[.pointer (some p)] h [.one (.int .u32)] fun (r : Int) h_ =>
  R (r != 0) h_
theorem E_sync_atomic_Bool_Load (x : Option Addr) (h : Heap) (R : Bool → Heap → Prop) :
    VF Tryz.prog [] Tryz.f133 [.pointer x] h [.one .bool] R = S_sync_atomic_Bool_Load x h R := by kernel_rfl
theorem A_sync_atomic_Bool_Load {x : Option Addr} {h : Heap} {R : Bool → Heap → Prop} (hs : S_sync_atomic_Bool_Load x h R) : C_sync_atomic_Bool_Load x h R :=
  use_ Tryz.func133 (by kernel_rfl) (E_sync_atomic_Bool_Load x h R) hs

end Go.Proofs.YtniojdaddolnfaaGreat

/-
  Layer 2 (crc): contracts of the program's calls, and of the document's.
-/
namespace Go.Proofs.YtniojdaddolnfaaGreat
open Go

/-! ## The table -/
def tabC (done lock made : Int) (l : List Nat) : List Value := .int .u32 done :: .int .i32 lock :: .int .u32 0 :: .int .i64 made :: l.map fun n : Nat => .int .u32 (n : Int)
def tab256 : List Nat := (List.range 256).map crcByte
theorem tabC_length (a b c : Int) (l : List Nat) : (tabC a b c l).length = l.length + 4 := by simp [tabC]
/-- A table: not yet made; made. -/
def TNew (h : Heap) (b : Nat) : Prop := ∃ t, Blk h b t (tabC 0 0 0 (List.replicate 256 0))
def TMade (h : Heap) (b : Nat) : Prop := ∃ t, Blk h b t (tabC 1 0 1 tab256)
theorem TNew.upd {F : Nat → Prop} {h h' : Heap} {b : Nat} (ht : TNew h b) (hu : Upd F h h') (hn : ¬ F b) : TNew h' b := ht.imp fun _ x => x.upd hu hn
theorem TMade.upd {F : Nat → Prop} {h h' : Heap} {b : Nat} (ht : TMade h b) (hu : Upd F h h') (hn : ¬ F b) : TMade h' b := ht.imp fun _ x => x.upd hu hn
theorem TMade.ext {h h' : Heap} {b : Nat} (ht : TMade h b) (hu : Ext h.size h h') : TMade h' b := ht.upd (hu.upd fun _ => False) fun x => x
theorem TMade.lt {h : Heap} {b : Nat} (ht : TMade h b) : b < h.size := by obtain ⟨_, x⟩ := ht; exact x.lt
set_option maxRecDepth 100000 in
theorem zc_table : zc Tryz.prog 181 = (tabC 0 0 0 (List.replicate 256 0)).toArray := by
  have e : (zc Tryz.prog 181).toList = tabC 0 0 0 (List.replicate 256 0) := by kernel_rfl
  rw [← e]
theorem crc_New_ok {h : Heap} {R : Option Addr → Heap → Prop} (hR : ∀ h', TNew h' h.size → Ext h.size h h' → h'.size = h.size + 1 → R (some ⟨h.size, 0, none⟩) h') : C_crc_New h R := by
  refine A_crc_New ?_
  unfold S_crc_New
  rw [zc_table]
  exact alloc fun h' b e z => hR h' ⟨_, b⟩ e z

theorem shr1_u32 {m : Nat} : shiftV .shr .u32 (m : Int) 1 = ((m / 2 : Nat) : Int) := by
  have := shr_eq .u32 (m : Int) 1 (by decide)
  rw [show ((1 : Nat) : Int) = 1 from rfl] at this
  rw [this]; omega
theorem shr8_u32 {m : Nat} : shiftV .shr .u32 (m : Int) 8 = ((m / 256 : Nat) : Int) := by
  have := shr_eq .u32 (m : Int) 8 (by decide)
  rw [show ((8 : Nat) : Int) = 8 from rfl] at this
  rw [this]; omega
theorem crcP_cast : (2197175160 : Int) = ((crcP : Nat) : Int) := rfl
theorem xor_u32' {a b : Nat} (ha : a < 4294967296) (hb : b < 4294967296) : bitV .xor .u32 (a : Int) (b : Int) = ((a ^^^ b : Nat) : Int) := xor_u32 ha hb
theorem xor_u8' {a b : Nat} (ha : a < 256) (hb : b < 256) : bitV .xor .u8 (a : Int) (b : Int) = ((a ^^^ b : Nat) : Int) := xor_u8 ha hb
theorem xor_lt32 {a b : Nat} (ha : a < 4294967296) (hb : b < 4294967296) : a ^^^ b < 4294967296 := Nat.xor_lt_two_pow (n := 32) ha hb
theorem and1_u32 {a : Nat} (ha : a < 4294967296) : bitV .and .u32 (a : Int) 1 = ((a % 2 : Nat) : Int) := by
  have := and_u32 (a := a) (b := 1) ha (by decide)
  rw [show ((1 : Nat) : Int) = 1 from rfl] at this
  rw [this, Nat.and_one_is_mod]
theorem set_tab (l : List Nat) (a b c : Int) (i v : Nat) : (tabC a b c l).set (i + 4) (.int .u32 (v : Int)) = tabC a b c (l.set i v) := by
  simp [tabC, List.map_set]
/-- The numbers that are made so far. -/
def partTab (k : Nat) : List Nat := (List.range k).map crcByte ++ List.replicate (256 - k) 0
theorem partTab_set {k : Nat} (hk : k < 256) : (partTab k).set k (crcByte k) = partTab (k + 1) := by
  unfold partTab
  rw [List.set_append_right _ _ (by simp), List.length_map, List.length_range, Nat.sub_self, show 256 - k = (256 - (k + 1)) + 1 by omega, List.replicate_succ, List.set_cons_zero, List.range_succ]
  simp
theorem partTab_length {k : Nat} (hk : k ≤ 256) : (partTab k).length = 256 := by simp [partTab]; omega
set_option maxRecDepth 100000 in
theorem crc_fill_ok {h : Heap} {b : Nat} {R : Heap → Prop} {t : TypeId} (hb : Blk h b t (tabC 0 1 0 (List.replicate 256 0)))
    (hR : ∀ h', Blk h' b t (tabC 0 1 1 tab256) → Upd (· = b) h h' → h'.size = h.size → R h') : C_crc_Table_fill (some ⟨b, 0, none⟩) h R := by
  refine A_crc_Table_fill ?_
  unfold S_crc_Table_fill
  refine nn (ldF hb 0 rfl (nn (stF hb (by simp [tabC]) fun h1 b1 u1 z1 => ?_)))
  have b1 : Blk h1 b t (tabC 0 1 1 (partTab 0)) := b1
  refine loop1 (s1 := .one (.int .i64)) (fun (x : Int) h2 => ∃ k : Nat, x = k ∧ k ≤ 256 ∧ Blk h2 b t (tabC 0 1 1 (partTab k)) ∧ Upd (· = b) h h2 ∧ h2.size = h.size) (fun (x : Int) _ => (256 - x).toNat)
    ⟨0, rfl, by omega, b1, u1, z1⟩ fun _ (x : Int) h2 hI => ?_
  obtain ⟨k, rfl, hk, b2, u2, z2⟩ := hI
  refine brD (fun hc => let_ ?_) fun hc => ?_
  · have hk2 : k < 256 := by omega
    rw [wu32 (by omega) (by omega)]
    refine loop2 (s1 := .one (.int .u32)) (s2 := .one (.int .i64)) (fun (r : Int) (y : Int) h3 => h3 = h2 ∧ ∃ j m : Nat, y = j ∧ j ≤ 8 ∧ r = m ∧ m < 4294967296 ∧ crcN (8 - j) m = crcByte k) (fun _ (y : Int) _ => (8 - y).toNat)
      ⟨rfl, 0, k, rfl, by omega, rfl, by omega, rfl⟩ fun _ (r : Int) (y : Int) h3 hI => ?_
    obtain ⟨rfl, j, m, rfl, hj, rfl, hm, hcr⟩ := hI
    refine brD (fun hc2 => let_ (nneg (by decide) (let_ ?_))) fun hc2 => ?_
    · rw [and1_u32 hm, shr1_u32, w64 (by omega) (by omega)]
      have e8 : 8 - j = (8 - (j + 1)) + 1 := by omega
      rw [e8, crcN] at hcr
      refine br beq_iff_eq (fun ho => let_ ?_) fun ho => ?_
      · have ho' : m % 2 = 1 := by omega
        have e : crcBit m = (m / 2) ^^^ crcP := by rw [crcBit, if_pos ho']
        rw [crcP_cast, xor_u32' (by omega) (by decide), ← e]
        exact ⟨⟨rfl, j + 1, crcBit m, by omega, by omega, rfl, crcBit_lt hm, hcr⟩, by omega⟩
      · have e : crcBit m = m / 2 := by rw [crcBit, if_neg (by omega)]
        rw [← e]
        exact ⟨⟨rfl, j + 1, crcBit m, by omega, by omega, rfl, crcBit_lt hm, hcr⟩, by omega⟩
    · have hj8 : j = 8 := by omega
      subst hj8
      have hm' : m = crcByte k := hcr
      refine nn ⟨by omega, by omega, ?_⟩
      rw [add0, add0, Nat.zero_add, Int.toNat_natCast, Nat.mul_one, Nat.add_comm 4 k]
      refine stB b2 (by rw [tabC_length, partTab_length hk]; omega) fun h4 b4 u4 z4 => ?_
      rw [set_tab, hm', partTab_set hk2] at b4
      rw [w64 (by omega) (by omega)]
      exact ⟨⟨k + 1, by omega, by omega, b4, u2.trans u4 (fun _ _ x => x) (fun _ _ x => x), by omega⟩, by omega⟩
  · have : k = 256 := by omega
    subst this
    have e : partTab 256 = tab256 := by simp [partTab, tab256]
    rw [e] at b2
    exact hR h2 b2 u2 z2
/-! ## Once -/
theorem once_Load_ok {h : Heap} {b : Nat} {n : Int} {R : Bool → Heap → Prop} (hc : cellH h ⟨b, 0, none⟩ = some (.int .u32 n)) (hR : R (n != 0) h) : C_sync_atomic_Bool_Load (some ⟨b, 0, none⟩) h R := by
  refine A_sync_atomic_Bool_Load ?_
  unfold S_sync_atomic_Bool_Load
  refine nn fun w hw => ⟨_, w, run_call_load (P := Tryz.prog) Tryz.func135 (by kernel_rfl) (by kernel_rfl) (by kernel_rfl) .u32 (by kernel_rfl) (x := n) (by rw [cell_eq, hw]; exact hc), Env.refl w, (n, ()), rfl, ?_⟩
  rw [hw]; exact hR
theorem once_Do_done {h : Heap} {b : Nat} {fv : Value} {R : Heap → Prop} (ht : TMade h b) (hR : R h) : C_sync_Once_Do (some ⟨b, 0, none⟩) fv h R := by
  refine A_sync_Once_Do ?_
  unfold S_sync_Once_Do
  obtain ⟨t, hb⟩ := ht
  exact nn (once_Load_ok (n := 1) (hb.cell 0) (brN rfl hR))
theorem once_Do_new {h : Heap} {b : Nat} {R : Heap → Prop} (ht : TNew h b) (hR : ∀ h', TMade h' b → Upd (· = b) h h' → h'.size = h.size → R h') :
    C_sync_Once_Do (some ⟨b, 0, none⟩) (.func (.func 132) #[.pointer (some ⟨b, 0, none⟩)] #[]) h R := by
  refine A_sync_Once_Do ?_
  unfold S_sync_Once_Do
  obtain ⟨t, hb⟩ := ht
  refine nn (once_Load_ok (n := 0) (hb.cell 0) (brY rfl ?_))
  intro w hw
  have b1 : Blk (setH h ⟨b, 1, none⟩ (.int .i32 1)) b t (tabC 0 1 0 (List.replicate 256 0)) := hb.set 1 (.int .i32 1)
  have hfill := crc_fill_ok (R := fun h' => Blk h' b t (tabC 0 1 1 tab256) ∧ Upd (· = b) h h' ∧ h'.size = h.size) b1 fun h' b2 u2 z2 =>
    ⟨b2, (upd_set h ⟨b, 1, none⟩ _).trans u2 (fun _ _ x => x) (fun _ _ x => x), by rw [z2, setH_size]⟩
  have hcall : Calls Tryz.prog 132 #[.pointer (some ⟨b, 0, none⟩)] (w.setCell ⟨b, 0 + 1, none⟩ (.int .i32 1)) fun e w' => e = .returned (.tuple #[]) ∧ Env (w.setCell ⟨b, 0 + 1, none⟩ (.int .i32 1)) w' ∧
      (Blk w'.heap b t (tabC 0 1 1 tab256) ∧ Upd (· = b) h w'.heap ∧ w'.heap.size = h.size) :=
    (hfill (w.setCell ⟨b, 1, none⟩ (.int .i32 1)) (by rw [set_eq, hw])).mono fun e w' ⟨hE, x, he, hx⟩ => ⟨he, hE, hx⟩
  refine (once_slow b 0 (.pointer (some ⟨b, 0, none⟩)) (Q := fun h' => Blk h' b t (tabC 0 1 1 tab256) ∧ Upd (· = b) h h' ∧ h'.size = h.size) w (by rw [cell_eq, hw]; exact hb.cell 0) (by rw [cell_eq, hw]; exact hb.cell 1) (by rw [frozen_eq, hw]; exact hb.free (by rw [tabC_length]; omega))
    (fun h' ⟨b2, _, _⟩ => ⟨by rw [b2.cell]; rfl, b2.free (by rw [tabC_length]; omega), b2.cell 1, b2.free (by rw [tabC_length]; omega)⟩) hcall).mono fun e w' ⟨he, hE, h2, ⟨b2, u2, z2⟩, hw2⟩ => ⟨hE, (), he, ?_⟩
  show R w'.heap
  rw [hw2]
  have b3 : Blk (setH h2 ⟨b, 0, none⟩ (.int .u32 1)) b t (tabC 1 1 1 tab256) := b2.set 0 (.int .u32 1)
  have b4 : Blk (setH (setH h2 ⟨b, 0, none⟩ (.int .u32 1)) ⟨b, 1, none⟩ (.int .i32 0)) b t (tabC 1 0 1 tab256) := b3.set 1 (.int .i32 0)
  exact hR _ ⟨t, b4⟩ ((u2.trans (upd_set h2 ⟨b, 0, none⟩ _) (fun _ _ x => x) (fun _ _ x => x)).trans (upd_set _ ⟨b, 1, none⟩ _) (fun _ _ x => x) (fun _ _ x => x)) (by rw [setH_size, setH_size]; exact z2)
/-! ## Add, Sum, Of -/
theorem ixcB {h : Heap} {s : Sl} {l : List UInt8} {i : Int} {K : Int → Prop} (hr : RdS h 1 s (cB l)) (k : Nat) (hi : i = (k : Int)) (hk : k < l.length) (hK : K (l[k].toNat : Nat)) :
    Ix s i 1 fun e => Ld (.int .u8) h e K := by
  subst hi
  have hlen : l.length = s.n := by have := hr.1; rw [cB_length] at this; omega
  refine ix hr (by omega) (by omega) (by decide) fun g o _ hc => ?_
  have := hc 0 (by decide)
  simp only [Nat.add_zero, Int.toNat_natCast, Nat.mul_one] at this
  exact ld _ (this.trans (by simp [cB, List.getElem?_eq_getElem hk])) hK
theorem rd_nB {h : Heap} {s : Sl} {l : List UInt8} (hr : RdS h 1 s (cB l)) : s.n = l.length := by have := hr.1; rw [cB_length] at this; omega
theorem tab_get {i : Nat} (hi : i < 256) : (tabC 1 0 1 tab256)[i + 4]? = some (.int .u32 ((crcByte i : Nat) : Int)) := by
  have : (tab256)[i]? = some (crcByte i) := by simp [tab256, hi]
  simp only [tabC, List.getElem?_cons_succ, List.getElem?_map, this, Option.map_some]
theorem crc_Add_ok {h : Heap} {b : Nat} {sum : Nat} {s : Sl} {l : List UInt8} {R : Int → Heap → Prop} (ht : TNew h b ∨ TMade h b) (hs : sum < 4294967296) (hr : RdS h 1 s (cB l)) (hsb : l ≠ [] → s.blk ≠ some b) (hl : l.length ≤ 1000000000)
    (hR : ∀ h', TMade h' b → Upd (· = b) h h' → h'.size = h.size → R ((4294967295 - crcReg (4294967295 - sum) l : Nat) : Int) h') : C_crc_Table_Add (some ⟨b, 0, none⟩) (sum : Int) s h R := by
  refine A_crc_Table_Add ?_
  unfold S_crc_Table_Add
  have hn := rd_nB hr
  have rest : ∀ h1, TMade h1 b → Upd (· = b) h h1 → h1.size = h.size → Let (bitV .xor .u32 4294967295 (sum : Int) : Int) fun r =>
      Loop [.one (.int .u32), .one (.int .i64)] (fun _ (r1 : Int) (x22 : Int) h_1 go =>
        (bif decide (x22 < (s.n : Int)) then
          Ix s x22 1 fun e =>
          Ld (.int .u8) h_1 e fun (x : Int) =>
          Nneg 8 (
          Nn (some (⟨b, 0, none⟩ : Addr)) fun p1 =>
          IxA (p1.add 4) 256 (bitV .xor .u8 (IntKind.u8.wrap r1) x) 1 fun e1 =>
          Ld (.int .u32) h_1 e1 fun (x1 : Int) =>
          Let (bitV .xor .u32 (shiftV .shr .u32 r1 8) x1 : Int) fun r2 =>
          go r2 (IntKind.i64.wrap (x22 + 1)) h_1
          )
        else
          R (bitV .xor .u32 4294967295 r1) h_1
        )
        ) (r, 0, ()) h1 := by
    intro h1 m1 u1 z1
    refine let_ ?_
    have ex : bitV .xor .u32 4294967295 (sum : Int) = ((4294967295 - sum : Nat) : Int) := by
      have := xor_u32' (a := 4294967295) (b := sum) (by decide) hs
      rw [xor_all hs] at this
      exact this
    rw [ex]
    refine loop2 (s1 := .one (.int .u32)) (s2 := .one (.int .i64)) (fun (r : Int) (y : Int) h3 => h3 = h1 ∧ ∃ k m : Nat, y = k ∧ k ≤ l.length ∧ r = m ∧ m < 4294967296 ∧ crcReg m (l.drop k) = crcReg (4294967295 - sum) l) (fun _ (y : Int) _ => (l.length - y).toNat)
      ⟨rfl, 0, _, rfl, by omega, rfl, by omega, rfl⟩ fun _ (r : Int) (y : Int) h3 hI => ?_
    obtain ⟨rfl, k, m, rfl, hk, rfl, hm, hcr⟩ := hI
    refine brD (fun hc => ?_) fun hc => ?_
    · have hk2 : k < l.length := by omega
      refine ixcB (hr.upd u1 fun g hg e => hsb (fun e0 => by rw [e0] at hk2; simp at hk2) (by rw [hg, e])) k rfl hk2 (nneg (by decide) (nn ?_))
      have hcb := l[k].toNat_lt
      have hcb' : l[k].toNat < 256 := hcb
      rw [wrU8, show ((m : Int) % 256) = ((m % 256 : Nat) : Int) by omega, xor_u8' (by omega) hcb']
      have hix : (m % 256) ^^^ l[k].toNat < 256 := Nat.xor_lt_two_pow (n := 8) (by omega) hcb
      refine ⟨by omega, by omega, ?_⟩
      rw [add0, add0, Nat.zero_add, Int.toNat_natCast, Nat.mul_one, Nat.add_comm 4]
      obtain ⟨t, hb⟩ := m1
      refine ldB hb ((crcByte ((m % 256) ^^^ l[k].toNat) : Nat) : Int) (tab_get hix) (let_ ?_)
      have h32 : crcByte ((m % 256) ^^^ l[k].toNat) < 4294967296 := crcByte_lt (by omega)
      rw [shr8_u32, xor_u32' (by omega) h32, ← crcByte_table, w64 (by omega) (by omega)]
      have hdr : l.drop k = l[k] :: l.drop (k + 1) := List.drop_eq_getElem_cons hk2
      rw [hdr] at hcr
      exact ⟨⟨rfl, k + 1, _, by omega, by omega, rfl, crcByte_lt (xor_lt32 hm (byte_lt32 _)), hcr⟩, by omega⟩
    · have : k = l.length := by omega
      subst this
      rw [List.drop_length] at hcr
      have hcr : m = crcReg (4294967295 - sum) l := hcr
      have e2 : bitV .xor .u32 4294967295 (m : Int) = ((4294967295 - m : Nat) : Int) := by
        have := xor_u32' (a := 4294967295) (b := m) (by decide) hm
        rw [xor_all hm] at this
        exact this
      rw [e2, hcr]
      exact hR _ m1 u1 z1
  refine brF (nn ?_)
  rcases ht with ht | ht
  · exact once_Do_new ht rest
  · exact once_Do_done ht (rest h ht (Upd.refl _ _) rfl)
theorem crc_Sum_ok {h : Heap} {b : Nat} {s : Sl} {l : List UInt8} {R : Int → Heap → Prop} (ht : TNew h b ∨ TMade h b) (hr : RdS h 1 s (cB l)) (hsb : l ≠ [] → s.blk ≠ some b) (hl : l.length ≤ 1000000000)
    (hR : ∀ h', TMade h' b → Upd (· = b) h h' → h'.size = h.size → R (crcOf l : Nat) h') : C_crc_Table_Sum (some ⟨b, 0, none⟩) s h R := by
  refine A_crc_Table_Sum ?_
  unfold S_crc_Table_Sum
  exact crc_Add_ok (sum := 0) ht (by decide) hr hsb hl hR
theorem RdS.below {h : Heap} {sz : Nat} {s : Sl} {xs : List Value} (hr : RdS h sz s xs) (hp : 0 < xs.length) : s.below h.size := fun g hg => by
  obtain ⟨g', o, ha, hx⟩ := hr.2 hp
  rw [Sl.blk, ha] at hg
  injection hg with hg
  rw [← hg]
  exact lt_of_cell (a := ⟨g', o + 0, none⟩) ((hx 0 hp).trans (List.getElem?_eq_getElem hp))
theorem RdS.belowB {h : Heap} {s : Sl} {l : List UInt8} (hr : RdS h 1 s (cB l)) (hp : l ≠ []) : s.below h.size := hr.below (by rw [cB_length]; exact List.length_pos_iff.2 hp)
theorem crc_Of_ok {h : Heap} {s : Sl} {l : List UInt8} {R : Int → Heap → Prop} (hr : RdS h 1 s (cB l)) (hl : l.length ≤ 1000000000)
    (hR : ∀ h', Ext h.size h h' → R (crcOf l : Nat) h') : C_crc_Of s h R := by
  refine A_crc_Of ?_
  unfold S_crc_Of
  refine crc_New_ok fun h1 t1 e1 z1 => crc_Sum_ok (.inl t1) (hr.ext' e1) (fun h0 e => by have := hr.belowB h0 _ e; omega) hl fun h2 _ u2 z2 => hR h2 (e1.trans (u2.ext1 (Nat.le_refl _) (by omega)))
theorem crc_Sum_nil {h : Heap} {s : Sl} {R : Int → Heap → Prop} (hR : R 0 h) : C_crc_Table_Sum none s h R := by
  refine A_crc_Table_Sum ?_
  unfold S_crc_Table_Sum
  exact A_crc_Table_Add hR
/-! ## Bytes, Equal, Check -/
theorem TB5 : ElemT Tryz.prog 75 5 1 1 := .of (by kernel_rfl)
theorem BT : ByteT Tryz.prog 75 9 5 := .of (by kernel_rfl)
def byteAt (n i : Nat) : UInt8 := UInt8.ofNat (n / 256 ^ i)
theorem crc_Bytes_ok {h : Heap} {sum : Nat} {R : Sl → Heap → Prop} (hs : sum < 4294967296) (hR : ∀ r h', Own h' 1 r (cB (le4 sum)) → r.from_ h.size → Ext h.size h h' → R r h') : C_crc_Bytes (sum : Int) h R := by
  refine A_crc_Bytes ?_
  unfold S_crc_Bytes
  refine loop2 (s1 := .one .sl) (s2 := .one (.int .i64)) (fun (out : Sl) (x : Int) h1 => ∃ k : Nat, x = k ∧ k ≤ 4 ∧ Own h1 1 out (cB ((le4 sum).take k)) ∧ out.from_ h.size ∧ Ext h.size h h1) (fun _ (x : Int) _ => (4 - x).toNat)
    ⟨0, rfl, by omega, Own.nil _ _, (fun g hg => by simp [Sl.blk] at hg), Ext.refl _ _⟩ fun _ (out : Sl) (x : Int) h1 hI => ?_
  obtain ⟨k, rfl, hk, ho, hf, he⟩ := hI
  have hn := rd_nB ho.rd
  have hlen : (le4 sum).length = 4 := rfl
  rw [List.length_take, hlen] at hn
  refine brD (fun hc => ?_) fun hc => ?_
  · rw [w64 (n := 8 * (k : Int)) (by omega) (by omega), wu64 (n := 8 * (k : Int)) (by omega) (by omega)]
    refine nneg (by omega) ?_
    have hb : IntKind.u8.wrap (shiftV .shr .u32 (sum : Int) (8 * (k : Int))) = (((le4 sum)[k]'(by omega)).toNat : Nat) := by
      have := shr_eq .u32 (sum : Int) (8 * k) (by show 8 * k ≤ 32; omega)
      rw [show ((8 * k : Nat) : Int) = 8 * (k : Int) by omega] at this
      rw [this, wrU8]
      have hk4 : k = 0 ∨ k = 1 ∨ k = 2 ∨ k = 3 := by omega
      rcases hk4 with rfl | rfl | rfl | rfl <;> simp [le4] <;> omega
    rw [hb]
    refine alloc (cs := cB [(le4 sum)[k]'(by omega)]) fun h2 b2 e2 z2 => ?_
    have r2 : RdS h2 1 ⟨some ⟨h1.size, 0, none⟩, 1, 1⟩ (cB [(le4 sum)[k]'(by omega)]) := (Own.full b2 (sz := 1) (n := 1) (by rfl) (by decide)).rd
    refine app TB5 (ho.ext' e2) r2 cB_one (by show (out.n + 1) * 1 ≤ _; omega) (by show out.n + 1 ≤ _; omega) fun s3 h3 o3 n3 u3 b3 => ?_
    rw [← cB_append, ← take_snoc] at o3
    rw [w64 (by omega) (by omega)]
    have hsz := he.1
    refine ⟨⟨k + 1, by omega, by omega, o3, ?_, (he.trans (e2.mono hsz)).trans (u3.ext (by have := e2.1; omega) fun g hg e => by have := hf g e; omega)⟩, by omega⟩
    rcases b3 with e | e
    · intro g hg; exact hf g (by rw [← e]; exact hg)
    · intro g hg; have := e g hg; have := e2.1; omega
  · have : k = 4 := by omega
    subst this
    rw [List.take_of_length_le (by rw [hlen]; exact Nat.le_refl _)] at ho
    exact hR out h1 ho hf he
theorem bytes_Equal_ok {h : Heap} {a b : Sl} {x y : List UInt8} {R : Bool → Heap → Prop} (ha : RdS h 1 a (cB x)) (hb : RdS h 1 b (cB y)) (hR : R (decide (x = y)) h) : C_bytes_Equal a b h R := by
  refine A_bytes_Equal ?_
  unfold S_bytes_Equal
  refine toS BT ha (toS BT hb ?_)
  rw [strB_toList, strB_toList]
  rwa [show (x == y) = decide (x = y) by by_cases e : x = y <;> simp [e]]
/-- A text appended to bytes. -/
theorem appS {h : Heap} {s : Sl} {xs ys : List UInt8} {ty : TypeId} {K : Sl → Heap → Prop} (ho : Own h 1 s (cB xs)) (hlen : xs.length + ys.length ≤ 140737488355328) (hk : ∀ s' h', Own h' 1 s' (cB (xs ++ ys)) → Grw h s h' s' → K s' h') :
    OpT Tryz.prog (Builtin.append_ #[75, 9] ty #[.slice s.a s.n s.c, .string (strB ys)]) h [.one .sl] K := by
  have e1 := rd_nB ho.rd
  have hx : SrcH Tryz.prog 1 9 (.string (strB ys)) (strB ys).size (byteCells (strB ys)) h := SrcH.str BT.str (strB ys)
  have e2 := strB_size ys
  refine opT_app TB5 ho hx (by omega) (by omega) fun s' h' o n u b => hk s' h' ?_ ⟨u, b⟩
  rwa [byteCells_eq, strB_data, ← cB_append] at o
theorem crc_Check_ok {h : Heap} {a b : Sl} {x y : List UInt8} {R : Bool → Heap → Prop} (ha : RdS h 1 a (cB x)) (hb : RdS h 1 b (cB y)) (hl : x.length ≤ 1000000000) (hR : ∀ h', Ext h.size h h' → R (decide (le4 (crcOf x) = y)) h') : C_crc_Check a b h R := by
  refine A_crc_Check ?_
  unfold S_crc_Check
  refine crc_Of_ok ha hl fun h1 e1 => crc_Bytes_ok (crcOf_lt x) fun r h2 o2 f2 e2 => ?_
  have E2 : Ext h.size h h2 := e1.trans (e2.mono e1.1)
  exact bytes_Equal_ok o2.rd (hb.ext' E2) (hR h2 E2)
theorem cB_set (l : List UInt8) (k : Nat) (v : UInt8) : (cB l).set k (.int .u8 (v.toNat : Nat)) = cB (l.set k v) := by simp [cB, List.map_set]
theorem xorB {x y : Nat} (hx : x < 256) (hy : y < 256) : bitV .xor .u8 (x : Int) (y : Int) = ((UInt8.ofNat (x ^^^ y)).toNat : Nat) := by
  have := Nat.xor_lt_two_pow (n := 8) hx hy
  rw [xor_u8' hx hy, UInt8.toNat_ofNat', Nat.mod_eq_of_lt this]
theorem xorB_ne {x y : UInt8} (hy : y.toNat ≠ 0) : UInt8.ofNat (x.toNat ^^^ y.toNat) ≠ x := by
  intro e
  have := congrArg UInt8.toNat e
  have h8 := Nat.xor_lt_two_pow (n := 8) x.toNat_lt y.toNat_lt
  simp only [UInt8.toNat_ofNat'] at this
  rw [Nat.mod_eq_of_lt h8] at this
  have h2 : y.toNat = 0 := by
    have h3 : x.toNat ^^^ y.toNat = x.toNat ^^^ 0 := by rw [Nat.xor_zero]; exact this
    exact xor_inj' h3
  exact hy h2
end Go.Proofs.YtniojdaddolnfaaGreat

/- Printed by a program: what each function asks of the heap, that this is the reading of its code, and what follows for a call. -/
set_option maxRecDepth 1000000
namespace Go.Proofs.YtniojdaddolnfaaGreat
open Go

/-- (*disk.Disk).Synced -/
def S_disk_Disk_Synced (d : Option Addr) (h : Heap) (R : Int → Heap → Prop) : Prop :=
  (bif d.isNone then
    R 0 h
  else
    Nn d fun p =>
    Ld (.int .i64) h (p.add 1) fun (synced : Int) =>
    R synced h
  )
theorem E_disk_Disk_Synced (d : Option Addr) (h : Heap) (R : Int → Heap → Prop) :
    VF Tryz.prog [] Tryz.f17 [.pointer d] h [.one (.int .i64)] R = S_disk_Disk_Synced d h R := by kernel_rfl
theorem A_disk_Disk_Synced {d : Option Addr} {h : Heap} {R : Int → Heap → Prop} (hs : S_disk_Disk_Synced d h R) : C_disk_Disk_Synced d h R :=
  use_ Tryz.func17 (by kernel_rfl) (E_disk_Disk_Synced d h R) hs

/-- (*disk.Disk).Len -/
def S_disk_Disk_Len (d : Option Addr) (h : Heap) (R : Int → Heap → Prop) : Prop :=
  (bif d.isNone then
    R 0 h
  else
    Nn d fun p =>
    Ld .sl h p fun (b : Sl) =>
    R (b.n : Int) h
  )
theorem E_disk_Disk_Len (d : Option Addr) (h : Heap) (R : Int → Heap → Prop) :
    VF Tryz.prog [] Tryz.f18 [.pointer d] h [.one (.int .i64)] R = S_disk_Disk_Len d h R := by kernel_rfl
theorem A_disk_Disk_Len {d : Option Addr} {h : Heap} {R : Int → Heap → Prop} (hs : S_disk_Disk_Len d h R) : C_disk_Disk_Len d h R :=
  use_ Tryz.func18 (by kernel_rfl) (E_disk_Disk_Len d h R) hs

/-- disk.New -/
def S_disk_New  (h : Heap) (R : Option Addr → Heap → Prop) : Prop :=
  Alloc h (.cells #[.slice none 0 0, .int .i64 0] 77) fun p h_ =>
  R (some p) h_
theorem E_disk_New  (h : Heap) (R : Option Addr → Heap → Prop) :
    VF Tryz.prog [] Tryz.f31 [] h [.one .ptr] R = S_disk_New  h R := by kernel_rfl
theorem A_disk_New  {h : Heap} {R : Option Addr → Heap → Prop} (hs : S_disk_New  h R) : C_disk_New  h R :=
  use_ Tryz.func31 (by kernel_rfl) (E_disk_New  h R) hs

/-- (*disk.Disk).Bytes -/
def S_disk_Disk_Bytes (d : Option Addr) (h : Heap) (R : Sl → Heap → Prop) : Prop :=
  (bif d.isNone then
    R ⟨none, 0, 0⟩ h
  else
    Nn d fun p =>
    Ld .sl h p fun (b : Sl) =>
    C_bytes_Clone b h fun (r : Sl) h_ =>
    R r h_
  )
theorem E_disk_Disk_Bytes (d : Option Addr) (h : Heap) (R : Sl → Heap → Prop) :
    VF Tryz.prog [] Tryz.f59 [.pointer d] h [.one .sl] R = S_disk_Disk_Bytes d h R := by kernel_rfl
theorem A_disk_Disk_Bytes {d : Option Addr} {h : Heap} {R : Sl → Heap → Prop} (hs : S_disk_Disk_Bytes d h R) : C_disk_Disk_Bytes d h R :=
  use_ Tryz.func59 (by kernel_rfl) (E_disk_Disk_Bytes d h R) hs

/-- (*disk.Disk).Cut -/
def S_disk_Disk_Cut (d : Option Addr) (n : Int) (h : Heap) (R : Int → Heap → Prop) : Prop :=
  Join [] (fun _ h_ =>
    Nn d fun p =>
    Ld .sl h_ p fun (b : Sl) =>
    Cut Tryz.prog 75 b none (some (.int .i64 n)) none fun s =>
    Nn d fun p1 =>
    St h_ p1 (.slice s.a s.n s.c) fun h_1 =>
    C_disk_Disk_Sync d h_1 fun (r : Int) h_2 =>
    R r h_2
    ) fun J =>
  (bif d.isNone then
    R 1 h
  else
    (bif decide (n < 0) then
      R 5 h
    else
      Nn d fun p2 =>
      Ld .sl h p2 fun (b1 : Sl) =>
      (bif decide (n > (b1.n : Int)) then
        R 5 h
      else
        J  h
      )
    )
  )
theorem E_disk_Disk_Cut (d : Option Addr) (n : Int) (h : Heap) (R : Int → Heap → Prop) :
    VF Tryz.prog [(6, [])] Tryz.f60 [.pointer d, .int .i64 n] h [.one (.int .i64)] R = S_disk_Disk_Cut d n h R := by kernel_rfl
theorem A_disk_Disk_Cut {d : Option Addr} {n : Int} {h : Heap} {R : Int → Heap → Prop} (hs : S_disk_Disk_Cut d n h R) : C_disk_Disk_Cut d n h R :=
  use_ Tryz.func60 (by kernel_rfl) (E_disk_Disk_Cut d n h R) hs

/-- (*disk.Disk).Sync -/
def S_disk_Disk_Sync (d : Option Addr) (h : Heap) (R : Int → Heap → Prop) : Prop :=
  (bif d.isNone then
    R 1 h
  else
    Nn d fun p =>
    Ld .sl h p fun (b : Sl) =>
    Nn d fun p1 =>
    St h (p1.add 1) (.int .i64 (b.n : Int)) fun h_ =>
    R 0 h_
  )
theorem E_disk_Disk_Sync (d : Option Addr) (h : Heap) (R : Int → Heap → Prop) :
    VF Tryz.prog [] Tryz.f67 [.pointer d] h [.one (.int .i64)] R = S_disk_Disk_Sync d h R := by kernel_rfl
theorem A_disk_Disk_Sync {d : Option Addr} {h : Heap} {R : Int → Heap → Prop} (hs : S_disk_Disk_Sync d h R) : C_disk_Disk_Sync d h R :=
  use_ Tryz.func67 (by kernel_rfl) (E_disk_Disk_Sync d h R) hs

/-- (*disk.Disk).Crash -/
def S_disk_Disk_Crash (d : Option Addr) (keep : Int) (at_ : Int) (by_ : Int) (h : Heap) (R : Int → Heap → Prop) : Prop :=
  (bif d.isNone then
    R 1 h
  else
    Nn d fun p =>
    Ld .sl h p fun (b : Sl) =>
    Nn d fun p1 =>
    Ld (.int .i64) h (p1.add 1) fun (synced : Int) =>
    Let (if (IntKind.i64.wrap ((b.n : Int) - synced)) < (if 0 > keep then 0 else keep) then IntKind.i64.wrap ((b.n : Int) - synced) else if 0 > keep then 0 else keep : Int) fun keep1 =>
    Nn d fun p2 =>
    Ld .sl h p2 fun (b1 : Sl) =>
    Nn d fun p3 =>
    Ld (.int .i64) h (p3.add 1) fun (synced1 : Int) =>
    Cut Tryz.prog 75 b1 none (some (.int .i64 (IntKind.i64.wrap (synced1 + keep1)))) none fun s =>
    Nn d fun p4 =>
    St h p4 (.slice s.a s.n s.c) fun h_ =>
    (bif decide (at_ ≥ 0) then
      (bif decide (at_ < keep1) then
        Nn d fun p5 =>
        Ld .sl h_ p5 fun (b2 : Sl) =>
        Nn d fun p6 =>
        Ld (.int .i64) h_ (p6.add 1) fun (synced2 : Int) =>
        Ix b2 (IntKind.i64.wrap (synced2 + at_)) 1 fun e =>
        Ld (.int .u8) h_ e fun (x : Int) =>
        Ix b2 (IntKind.i64.wrap (synced2 + at_)) 1 fun e1 =>
        St h_ e1 (.int .u8 (bitV .xor .u8 x by_)) fun h_1 =>
        R 0 h_1
      else
        R 0 h_
      )
    else
      R 0 h_
    )
  )
theorem E_disk_Disk_Crash (d : Option Addr) (keep : Int) (at_ : Int) (by_ : Int) (h : Heap) (R : Int → Heap → Prop) :
    VF Tryz.prog [] Tryz.f73 [.pointer d, .int .i64 keep, .int .i64 at_, .int .u8 by_] h [.one (.int .i64)] R = S_disk_Disk_Crash d keep at_ by_ h R := by kernel_rfl
theorem A_disk_Disk_Crash {d : Option Addr} {keep : Int} {at_ : Int} {by_ : Int} {h : Heap} {R : Int → Heap → Prop} (hs : S_disk_Disk_Crash d keep at_ by_ h R) : C_disk_Disk_Crash d keep at_ by_ h R :=
  use_ Tryz.func73 (by kernel_rfl) (E_disk_Disk_Crash d keep at_ by_ h R) hs

/-- (*disk.Disk).Write -/
def S_disk_Disk_Write (d : Option Addr) (b : Sl) (h : Heap) (R : Int → Heap → Prop) : Prop :=
  (bif d.isNone then
    R 1 h
  else
    Nn d fun p =>
    Ld .sl h p fun (b1 : Sl) =>
    (bif decide ((IntKind.i64.wrap ((b1.n : Int) + (b.n : Int))) > 1048576) then
      R 7 h
    else
      Nn d fun p1 =>
      Ld .sl h p1 fun (b2 : Sl) =>
      App Tryz.prog 75 75 b2 b h fun s h_ =>
      Nn d fun p2 =>
      St h_ p2 (.slice s.a s.n s.c) fun h_1 =>
      R 0 h_1
    )
  )
theorem E_disk_Disk_Write (d : Option Addr) (b : Sl) (h : Heap) (R : Int → Heap → Prop) :
    VF Tryz.prog [] Tryz.f120 [.pointer d, .slice b.a b.n b.c] h [.one (.int .i64)] R = S_disk_Disk_Write d b h R := by kernel_rfl
theorem A_disk_Disk_Write {d : Option Addr} {b : Sl} {h : Heap} {R : Int → Heap → Prop} (hs : S_disk_Disk_Write d b h R) : C_disk_Disk_Write d b h R :=
  use_ Tryz.func120 (by kernel_rfl) (E_disk_Disk_Write d b h R) hs

end Go.Proofs.YtniojdaddolnfaaGreat
