/-
  Layer 8 (raft): the contracts of the inner calls.
-/
import Derived.Test.YtniojdaddolnfaaAb
namespace Go.Proofs.Ytniojdaddolnfaa
open Go

def RN.cells (X : RN) (lg : Nat) (so : Sl) : List Value :=
  [.int .i64 X.id, .int .i64 X.n, .int .i64 X.elect, .int .i64 X.beat, .int .i64 X.term, .int .i64 X.vote, .int .i64 X.role, .int .i64 X.leader, .int .i64 X.since, .int .i64 X.quiet, .int .i64 X.commit,
   .pointer (some ⟨lg, 0, none⟩), .int .u64 (X.votes : Int), .int .u64 (X.heard : Int),
   .int .i64 (X.next 0), .int .i64 (X.next 1), .int .i64 (X.next 2), .int .i64 (X.next 3), .int .i64 (X.next 4), .int .i64 (X.next 5), .int .i64 (X.next 6),
   .int .i64 (X.matc 0), .int .i64 (X.matc 1), .int .i64 (X.matc 2), .int .i64 (X.matc 3), .int .i64 (X.matc 4), .int .i64 (X.matc 5), .int .i64 (X.matc 6),
   .slice so.a so.n so.c, .bool X.hard, .int .i64 X.from_]
def eMS : Enc (RM × Sl) 9 := ⟨fun a => [.int .i64 a.1.kind, .int .i64 a.1.from_, .int .i64 a.1.to, .int .i64 a.1.term, .int .i64 a.1.index, .int .i64 a.1.logTerm, .int .i64 a.1.commit, .bool a.1.yes, .slice a.2.a a.2.n a.2.c], fun _ => rfl, by decide, fun x u hu => by
  simp only [List.mem_cons, List.not_mem_nil, or_false] at hu
  rcases hu with rfl | rfl | rfl | rfl | rfl | rfl | rfl | rfl | rfl <;> rfl⟩
theorem TMS : ElemT Try.prog 40 47 9 88 := .of (by kernel_rfl)
def fourL (d : Nat) (ty : TypeId) (lg : Nat) (tl : TypeId) (sl so : Sl) (X : RN) (z : List (RM × Sl)) : List Res :=
  [.blk d ty (X.cells lg so), .blk lg tl [.slice sl.a sl.n sl.c], .own sl 2 (eRE.fl X.log), .own so 9 (eMS.fl z)]
def entsR (z : List (RM × Sl)) : List Res := z.map fun q => .own q.2 2 (eRE.fl q.1.ents)
def RaftAt (h0 h : Heap) (d : Nat) (X : RN) (F : List Res) : Prop :=
  ∃ ty lg tl sl so z, z.map Prod.fst = X.out ∧ At h0 h (fourL d ty lg tl sl so X z ++ (F ++ entsR z))
section
variable {h0 h : Heap} {F : List Res} {d : Nat} {X : RN}
theorem At.sub {L L' : List Res} (H : At h0 h L) (p : L'.Sublist L) : At h0 h L' := ⟨H.ext, fun r hr => H.ok r (p.subset hr), fun r hr => H.lo r (p.subset hr), H.sep.sublist p⟩
theorem RaftAt.perm {F' : List Res} (H : RaftAt h0 h d X F) (p : F.Perm F') : RaftAt h0 h d X F' := by
  obtain ⟨ty, lg, tl, sl, so, z, hz, H⟩ := H
  exact ⟨ty, lg, tl, sl, so, z, hz, H.perm (List.Perm.append_left _ (List.Perm.append_right _ p))⟩
theorem RaftAt.sub {F' : List Res} (H : RaftAt h0 h d X F) (p : F'.Sublist F) : RaftAt h0 h d X F' := by
  obtain ⟨ty, lg, tl, sl, so, z, hz, H⟩ := H
  exact ⟨ty, lg, tl, sl, so, z, hz, H.sub (List.Sublist.append_left (List.Sublist.append_right p _) _)⟩
theorem RaftAt.tail {r : Res} (H : RaftAt h0 h d X (r :: F)) : RaftAt h0 h d X F := H.sub (List.sublist_cons_self ..)
theorem RaftAt.ats (H : RaftAt h0 h d X F) : At h0 h F := by
  obtain ⟨ty, lg, tl, sl, so, z, hz, H⟩ := H
  exact H.sub ((List.sublist_append_left ..).trans (List.sublist_append_right ..))
theorem RaftAt.alloc {t : TypeId} {cs : List Value} {K : Addr → Heap → Prop} (H : RaftAt h0 h d X F) (hk : ∀ h' b, RaftAt h0 h' d X (.blk b t cs :: F) → K ⟨b, 0, none⟩ h') : Alloc h (.cells cs.toArray t) K := by
  obtain ⟨ty, lg, tl, sl, so, z, hz, H⟩ := H
  exact allocAt H fun h' b H => hk h' b ⟨ty, lg, tl, sl, so, z, hz, H.mv 1 4⟩
theorem RaftAt.nil (H : RaftAt h0 h d X F) (sz : Nat) : RaftAt h0 h d X (.own ⟨none, 0, 0⟩ sz [] :: F) := by
  obtain ⟨ty, lg, tl, sl, so, z, hz, H⟩ := H
  exact ⟨ty, lg, tl, sl, so, z, hz, (H.nil sz).mv 1 4⟩
theorem RaftAt.nilE {xs : List RE} (H : RaftAt h0 h d X F) (he : xs = []) : RaftAt h0 h d X (.own ⟨none, 0, 0⟩ 2 (eRE.fl xs) :: F) := by
  subst he
  exact H.nil 2
theorem ldR_ok {kd : Kd} {j : Nat} {K : kd.T → Prop} (H : RaftAt h0 h d X F) (x : kd.T) (hx : ∀ lg so, (X.cells lg so)[j]? = some (kd.mk x)) (hK : K x) : Ld kd h ((⟨d, 0, none⟩ : Addr).add j) K := by
  obtain ⟨ty, lg, tl, sl, so, z, hz, H⟩ := H
  exact ldAt H 0 rfl x (hx lg so) hK
theorem ldR0_ok {kd : Kd} {K : kd.T → Prop} (H : RaftAt h0 h d X F) (x : kd.T) (hx : ∀ lg so, (X.cells lg so)[0]? = some (kd.mk x)) (hK : K x) : Ld kd h (⟨d, 0, none⟩ : Addr) K := by
  obtain ⟨ty, lg, tl, sl, so, z, hz, H⟩ := H
  exact ldAt0 H 0 rfl x (hx lg so) hK
theorem stR_ok {j : Nat} {v : Value} {K : Heap → Prop} (Y : RN) (H : RaftAt h0 h d X F) (hj : Nat.ble (j + 1) 31 = true) (hl : Y.log = X.log) (ho : Y.out = X.out) (hy : ∀ lg so, Y.cells lg so = (X.cells lg so).set j v) (hK : ∀ h', RaftAt h0 h' d Y F → K h') : St h ((⟨d, 0, none⟩ : Addr).add j) v K := by
  obtain ⟨ty, lg, tl, sl, so, z, hz, H⟩ := H
  refine stAt H 0 rfl hj fun h' H => hK h' ⟨ty, lg, tl, sl, so, z, hz.trans ho.symm, ?_⟩
  unfold fourL
  rw [hy, hl]
  exact H
theorem cells_next (X : RN) (lg : Nat) (so : Sl) : ∀ k, k < 7 → (X.cells lg so)[14 + k]? = some (.int .i64 (X.next k))
  | 0, _ => rfl | 1, _ => rfl | 2, _ => rfl | 3, _ => rfl | 4, _ => rfl | 5, _ => rfl | 6, _ => rfl
theorem cells_matc (X : RN) (lg : Nat) (so : Sl) : ∀ k, k < 7 → (X.cells lg so)[21 + k]? = some (.int .i64 (X.matc k))
  | 0, _ => rfl | 1, _ => rfl | 2, _ => rfl | 3, _ => rfl | 4, _ => rfl | 5, _ => rfl | 6, _ => rfl
theorem cells_nextS (X : RN) (lg : Nat) (so : Sl) (v : Int) : ∀ k, k < 7 → ({ X with next := upd X.next k v } : RN).cells lg so = (X.cells lg so).set (14 + k) (.int .i64 v)
  | 0, _ => rfl | 1, _ => rfl | 2, _ => rfl | 3, _ => rfl | 4, _ => rfl | 5, _ => rfl | 6, _ => rfl
theorem cells_matcS (X : RN) (lg : Nat) (so : Sl) (v : Int) : ∀ k, k < 7 → ({ X with matc := upd X.matc k v } : RN).cells lg so = (X.cells lg so).set (21 + k) (.int .i64 v)
  | 0, _ => rfl | 1, _ => rfl | 2, _ => rfl | 3, _ => rfl | 4, _ => rfl | 5, _ => rfl | 6, _ => rfl
theorem add_add (a : Addr) (m k : Nat) : (a.add m).add k = a.add (m + k) := by
  unfold Addr.add
  by_cases hm : m = 0 <;> by_cases hk : k = 0 <;> simp [hm, hk, Nat.add_assoc]
theorem ixArr {j : Nat} {i : Int} {K : Addr → Prop} (k : Nat) (hi : i = (k : Int)) (hk : k < 7) (hK : K ((⟨d, 0, none⟩ : Addr).add (j + k))) : IxA ((⟨d, 0, none⟩ : Addr).add j) 7 i 1 K := by
  subst hi
  refine ⟨by omega, by omega, ?_⟩
  rw [Int.toNat_natCast, Nat.mul_one, add_add]
  exact hK
/-- What the inner calls ask of a node. -/
structure RB (X : RN) : Prop where
  n1 : 1 ≤ X.n
  n7 : X.n ≤ 7
  id0 : 0 ≤ X.id
  idn : X.id < X.n
  nx : ∀ t, 0 ≤ X.next t ∧ X.next t ≤ 1025
  l : X.log.length ≤ 1024
theorem RB.of {Y : RN} (h : RB X) (h1 : Y.n = X.n) (h2 : Y.id = X.id) (h3 : Y.next = X.next) (h4 : Y.log = X.log) : RB Y := ⟨h1 ▸ h.n1, h1 ▸ h.n7, h2 ▸ h.id0, by rw [h1, h2]; exact h.idn, h3 ▸ h.nx, h4 ▸ h.l⟩
theorem others_len (X : RN) (k : Nat) : (others X k).length ≤ k := by
  unfold others
  exact Nat.le_trans (List.length_filter_le ..) (by rw [List.length_range]; exact Nat.le_refl _)
theorem others_succ (X : RN) (k : Nat) : others X (k + 1) = others X k ++ if (k : Int) ≠ X.id then [k] else [] := by
  unfold others
  rw [List.range_succ, List.filter_append]
  congr 1
  by_cases h : (k : Int) ≠ X.id
  · rw [if_pos h, List.filter_cons_of_pos (by simpa using h)]; rfl
  · rw [if_neg h, List.filter_cons_of_neg (by simpa using h)]; rfl
theorem raft_most_ok {v : Nat} {R : Bool → Heap → Prop} (H : RaftAt h0 h d X F) (hv : v < 128) (hR : R (decide (mostB X v)) h) : C_raft_Node_most (some ⟨d, 0, none⟩) (v : Int) h R := by
  refine A_raft_Node_most ?_
  unfold S_raft_Node_most
  refine nn (ldR_ok (j := 1) H X.n (fun _ _ => rfl) ?_)
  refine popT_ok hv ⟨ldR_ok (j := 1) H X.n (fun _ _ => rfl) rfl, ?_⟩
  have := popT_le ⟨v, hv⟩
  simp only at this
  rw [w64 (by omega) (by omega)]
  exact hR
theorem raft_follow_ok {t l : Int} {R : Heap → Prop} (H : RaftAt h0 h d X F) (hR : ∀ h', RaftAt h0 h' d (rFollow X t l) F → R h') : C_raft_Node_follow (some ⟨d, 0, none⟩) t l h R := by
  refine A_raft_Node_follow ?_
  unfold S_raft_Node_follow
  refine nn (ldR_ok (j := 4) H X.term (fun _ _ => rfl) ?_)
  unfold rFollow at hR
  refine join0 (fun h1 => RaftAt h0 h1 d (if t > X.term then { X with term := t, vote := -1, hard := true } else X) F) (fun _ h1 H => ?_) ?_
  · by_cases ht : t > X.term
    · rw [if_pos ht] at H hR
      exact nn (stR_ok (j := 6) { X with term := t, vote := -1, hard := true, role := 0 } H rfl rfl rfl (fun _ _ => rfl) fun h2 H => nn (stR_ok (j := 7) { X with term := t, vote := -1, hard := true, role := 0, leader := l } H rfl rfl rfl (fun _ _ => rfl) fun h3 H => hR _ H))
    · rw [if_neg ht] at H hR
      refine nn (stR_ok (j := 6) { X with role := 0 } H rfl rfl rfl (fun _ _ => rfl) fun h2 H => nn (stR_ok (j := 7) { X with role := 0, leader := l } H rfl rfl rfl (fun _ _ => rfl) fun h3 H => hR _ H))
  · refine brD (fun ht => ?_) fun ht => ?_
    · rw [if_pos ht]
      exact nn (stR_ok (j := 4) { X with term := t } H rfl rfl rfl (fun _ _ => rfl) fun h2 H => nn (stR_ok (j := 5) { X with term := t, vote := -1 } H rfl rfl rfl (fun _ _ => rfl) fun h3 H => nn (stR_ok (j := 29) { X with term := t, vote := -1, hard := true } H rfl rfl rfl (fun _ _ => rfl) fun h4 H => H)))
    · rw [if_neg ht]; exact H
theorem raft_dirty_ok {i : Int} {R : Heap → Prop} (H : RaftAt h0 h d X F) (hR : ∀ h', RaftAt h0 h' d (rDirty X i) F → R h') : C_raft_Node_dirty (some ⟨d, 0, none⟩) i h R := by
  refine A_raft_Node_dirty ?_
  unfold S_raft_Node_dirty
  unfold rDirty at hR
  refine nn (ldR_ok (j := 30) H X.from_ (fun _ _ => rfl) ?_)
  refine br beq_iff_eq (fun h1 => ?_) fun h1 => nn (ldR_ok (j := 30) H X.from_ (fun _ _ => rfl) (brD (fun h2 => ?_) fun h2 => ?_))
  · rw [if_pos (.inl h1)] at hR
    exact nn (stR_ok (j := 30) { X with from_ := i } H rfl rfl rfl (fun _ _ => rfl) fun h2 H => hR _ H)
  · rw [if_pos (.inr h2)] at hR
    exact nn (stR_ok (j := 30) { X with from_ := i } H rfl rfl rfl (fun _ _ => rfl) fun h2 H => hR _ H)
  · rw [if_neg (by omega)] at hR
    exact hR _ H
theorem permLast2 {α : Type} (r : α) (F B : List α) : ((r :: F) ++ B).Perm (F ++ (B ++ [r])) := by
  have h1 : ((r :: F) ++ B).Perm ((F ++ B) ++ [r]) := (List.perm_append_singleton r (F ++ B)).symm
  rw [List.append_assoc] at h1
  exact h1
theorem raft_send_ok {to : Int} {m : RM} {s2 : Sl} {R : Heap → Prop} (H : RaftAt h0 h d X (.own s2 2 (eRE.fl m.ents) :: F)) (ho : X.out.length ≤ 999999) (hR : ∀ h', RaftAt h0 h' d (rSend X to m) F → R h') :
    C_raft_Node_send (some ⟨d, 0, none⟩) to (m.kind, m.from_, m.to, m.term, m.index, m.logTerm, m.commit, m.yes, s2, ()) h R := by
  refine A_raft_Node_send ?_
  unfold S_raft_Node_send
  obtain ⟨ty, lg, tl, sl, so, z, hz, H⟩ := H
  have hzl : z.length = X.out.length := by rw [← hz, List.length_map]
  refine allocAt (cs := [.int .i64 m.kind, .int .i64 m.from_, .int .i64 m.to, .int .i64 m.term, .int .i64 m.index, .int .i64 m.logTerm, .int .i64 m.commit, .bool m.yes, .slice s2.a s2.n s2.c]) H fun h b1 H => ?_
  repeat (first | with_reducible refine nn ?_ | with_reducible refine let_ ?_ | with_reducible refine brSome ?_ | with_reducible refine brF ?_ | with_reducible refine brT ?_ | ((with_reducible apply ldAt H 0); exact rfl; exact rfl) | ((with_reducible apply ldAt0 H 0); exact rfl; exact rfl) | ((with_reducible apply ldAt H 1); exact rfl; exact rfl) | ((with_reducible apply ldAt0 H 1); exact rfl; exact rfl) | ((with_reducible apply stAt H 0); exact rfl; exact rfl; intro h H) | ((with_reducible apply stAt0 H 0); exact rfl; exact rfl; intro h H) | ((with_reducible apply stAt H 1); exact rfl; exact rfl; intro h H) | ((with_reducible apply stAt0 H 1); exact rfl; exact rfl; intro h H) | ((with_reducible refine ⟨?_, ?_⟩); first | ((with_reducible apply ldAt H 0); exact rfl; exact rfl; exact rfl) | ((with_reducible apply ldAt0 H 0); exact rfl; exact rfl; exact rfl) | ((with_reducible apply ldAt H 1); exact rfl; exact rfl; exact rfl) | ((with_reducible apply ldAt0 H 1); exact rfl; exact rfl; exact rfl)))
  refine allocAt (cs := [.int .i64 m.kind, .int .i64 X.id, .int .i64 to, .int .i64 m.term, .int .i64 m.index, .int .i64 m.logTerm, .int .i64 m.commit, .bool m.yes, .slice s2.a s2.n s2.c]) H fun h b2 H => ?_
  repeat (first | with_reducible refine nn ?_ | with_reducible refine let_ ?_ | with_reducible refine brSome ?_ | with_reducible refine brF ?_ | with_reducible refine brT ?_ | ((with_reducible apply ldAt H 2); exact rfl; exact rfl) | ((with_reducible apply ldAt0 H 2); exact rfl; exact rfl) | ((with_reducible apply stAt H 2); exact rfl; exact rfl; intro h H) | ((with_reducible apply stAt0 H 2); exact rfl; exact rfl; intro h H) | ((with_reducible refine ⟨?_, ?_⟩); first | ((with_reducible apply ldAt H 2); exact rfl; exact rfl; exact rfl) | ((with_reducible apply ldAt0 H 2); exact rfl; exact rfl; exact rfl)))
  refine app1B (E := eMS) TMS H 5 rfl 0 rfl ({ m with from_ := X.id, to := to }, s2) rfl (by omega) (by omega) fun s3 h H => ?_
  repeat (first | with_reducible refine nn ?_ | with_reducible refine let_ ?_ | with_reducible refine brSome ?_ | with_reducible refine brF ?_ | with_reducible refine brT ?_ | ((with_reducible apply ldAt H 2); exact rfl; exact rfl) | ((with_reducible apply ldAt0 H 2); exact rfl; exact rfl) | ((with_reducible apply stAt H 2); exact rfl; exact rfl; intro h H) | ((with_reducible apply stAt0 H 2); exact rfl; exact rfl; intro h H) | ((with_reducible refine ⟨?_, ?_⟩); first | ((with_reducible apply ldAt H 2); exact rfl; exact rfl; exact rfl) | ((with_reducible apply ldAt0 H 2); exact rfl; exact rfl; exact rfl)))
  have H : At h0 h (fourL d ty lg tl sl s3 (rSend X to m) (z ++ [({ m with from_ := X.id, to := to }, s2)]) ++ ((.own s2 2 (eRE.fl m.ents) :: F) ++ entsR z)) := H.tail.tail
  refine hR h ⟨ty, lg, tl, sl, s3, z ++ [({ m with from_ := X.id, to := to }, s2)], by rw [List.map_append, hz]; rfl, ?_⟩
  have e : entsR (z ++ [({ m with from_ := X.id, to := to }, s2)]) = entsR z ++ [.own s2 2 (eRE.fl m.ents)] := by unfold entsR; rw [List.map_append]; rfl
  rw [e]
  exact H.perm (List.Perm.append_left _ (permLast2 ..))
theorem raft_all_ok {m : RM} {R : Heap → Prop} (H : RaftAt h0 h d X F) (hb : RB X) (he : m.ents = []) (ho : X.out.length ≤ 900000) (hR : ∀ h', RaftAt h0 h' d (rAll X m) F → R h') :
    C_raft_Node_all (some ⟨d, 0, none⟩) (m.kind, m.from_, m.to, m.term, m.index, m.logTerm, m.commit, m.yes, ⟨none, 0, 0⟩, ()) h R := by
  refine A_raft_Node_all ?_
  unfold S_raft_Node_all
  have hn := hb.n7
  have hn1 := hb.n1
  refine RaftAt.alloc (cs := [.int .i64 m.kind, .int .i64 m.from_, .int .i64 m.to, .int .i64 m.term, .int .i64 m.index, .int .i64 m.logTerm, .int .i64 m.commit, .bool m.yes, .slice none 0 0]) H fun h b1 H => ?_
  refine nn (ldR_ok (j := 1) H X.n (fun _ _ => rfl) ?_)
  refine loop1 (s1 := .one (.int .i64)) (fun (y : Int) h1 => ∃ j : Nat, y = j ∧ (j : Int) ≤ X.n ∧ RaftAt h0 h1 d { X with out := X.out ++ (others X j).map fun t => { m with from_ := X.id, to := (t : Int) } } (.blk b1 47 [.int .i64 m.kind, .int .i64 m.from_, .int .i64 m.to, .int .i64 m.term, .int .i64 m.index, .int .i64 m.logTerm, .int .i64 m.commit, .bool m.yes, .slice none 0 0] :: F)) (fun (y : Int) _ => (X.n - y).toNat)
    ⟨0, rfl, by show (0 : Int) ≤ _; omega, by rw [show others X 0 = [] from rfl, List.map_nil, List.append_nil]; exact H⟩ fun _ (y : Int) h1 hI => ?_
  obtain ⟨j, rfl, hj, H⟩ := hI
  refine brD (fun hc => ?_) fun hc => ?_
  · refine nn (ldR0_ok H X.id (fun _ _ => rfl) ?_)
    rw [w64 (by omega) (by omega)]
    have hol := others_len X j
    have hs := others_succ X j
    refine br bne_iff_ne (fun hne => ?_) fun heq => ?_
    · rw [if_pos hne] at hs
      have A := H.ats
      refine ldAt0 A 0 rfl m.kind rfl (ldAt (j := 1) A 0 rfl m.from_ rfl (ldAt (j := 2) A 0 rfl m.to rfl (ldAt (j := 3) A 0 rfl m.term rfl (ldAt (j := 4) A 0 rfl m.index rfl (ldAt (j := 5) A 0 rfl m.logTerm rfl (ldAt (j := 6) A 0 rfl m.commit rfl (ldAt (j := 7) A 0 rfl m.yes rfl (ldAt (j := 8) A 0 rfl (⟨none, 0, 0⟩ : Sl) rfl ?_))))))))
      have H2 := H.nilE he
      refine raft_send_ok (m := m) (s2 := ⟨none, 0, 0⟩) H2 (by rw [List.length_append, List.length_map]; omega) fun h2 H => ?_
      refine ⟨⟨j + 1, by omega, by omega, ?_⟩, by omega⟩
      rw [hs, List.map_append, ← List.append_assoc]
      exact H
    · rw [if_neg heq, List.append_nil] at hs
      exact ⟨⟨j + 1, by omega, by omega, by rw [hs]; exact H⟩, by omega⟩
  · have hjn : X.n.toNat = j := by omega
    unfold rAll at hR
    rw [hjn] at hR
    exact hR _ H.tail
theorem raft_to_ok {k : Nat} {R : Heap → Prop} (H : RaftAt h0 h d X F) (hb : RB X) (hk : k < 7) (ho : X.out.length ≤ 999999) (hR : ∀ h', RaftAt h0 h' d (rTo X k) F → R h') : C_raft_Node_to (some ⟨d, 0, none⟩) (k : Int) h R := by
  refine A_raft_Node_to ?_
  unfold S_raft_Node_to
  have hnx := hb.nx k
  have hl := hb.l
  refine nn (ixArr k rfl hk ?_)
  refine ldR_ok (j := 14 + k) H (X.next k) (fun lg so => cells_next X lg so k hk) ?_
  rw [w64 (n := X.next k - 1) (by omega) (by omega)]
  refine let_ (nn ?_)
  obtain ⟨ty, lg, tl, sl, so, z, hz, H⟩ := H
  refine ldAt (j := 11) H 0 rfl (some ⟨lg, 0, none⟩) rfl ?_
  refine log_Term_ok H 1 rfl 2 rfl (by omega) ?_
  repeat (first | with_reducible refine nn ?_ | with_reducible refine let_ ?_ | with_reducible refine brSome ?_ | with_reducible refine brF ?_ | with_reducible refine brT ?_ | ((with_reducible apply ldAt H 0); exact rfl; exact rfl) | ((with_reducible apply ldAt0 H 0); exact rfl; exact rfl) | ((with_reducible apply stAt H 0); exact rfl; exact rfl; intro h H) | ((with_reducible apply stAt0 H 0); exact rfl; exact rfl; intro h H) | ((with_reducible refine ⟨?_, ?_⟩); first | ((with_reducible apply ldAt H 0); exact rfl; exact rfl; exact rfl) | ((with_reducible apply ldAt0 H 0); exact rfl; exact rfl; exact rfl)))
  rw [w64 (by omega) (by omega)]
  refine log_From_ok H 1 rfl 2 rfl (by omega) (by omega) (by omega) fun r h H => ?_
  repeat (first | with_reducible refine nn ?_ | with_reducible refine let_ ?_ | with_reducible refine brSome ?_ | with_reducible refine brF ?_ | with_reducible refine brT ?_ | ((with_reducible apply ldAt H 1); exact rfl; exact rfl) | ((with_reducible apply ldAt0 H 1); exact rfl; exact rfl) | ((with_reducible apply stAt H 1); exact rfl; exact rfl; intro h H) | ((with_reducible apply stAt0 H 1); exact rfl; exact rfl; intro h H) | ((with_reducible refine ⟨?_, ?_⟩); first | ((with_reducible apply ldAt H 1); exact rfl; exact rfl; exact rfl) | ((with_reducible apply ldAt0 H 1); exact rfl; exact rfl; exact rfl)))
  have H : RaftAt h0 h d X (.own r 2 (eRE.fl (fromL X.log (X.next k - 1 + 1) 8)) :: F) := ⟨ty, lg, tl, sl, so, z, hz, H.mv 1 4⟩
  exact raft_send_ok (m := ⟨5, 0, 0, X.term, X.next k - 1, (termAt X.log (X.next k - 1)).1, X.commit, false, fromL X.log (X.next k - 1 + 1) 8⟩) H ho hR
theorem raft_toAll_ok {R : Heap → Prop} (H : RaftAt h0 h d X F) (hb : RB X) (ho : X.out.length ≤ 900000) (hR : ∀ h', RaftAt h0 h' d (rToAll X) F → R h') : C_raft_Node_toAll (some ⟨d, 0, none⟩) h R := by
  refine A_raft_Node_toAll ?_
  unfold S_raft_Node_toAll
  have hn := hb.n7
  have hn1 := hb.n1
  refine nn (stR_ok (j := 8) { X with since := 0 } H rfl rfl rfl (fun _ _ => rfl) fun h1 H => nn (ldR_ok (j := 1) H X.n (fun _ _ => rfl) ?_))
  refine loop1 (s1 := .one (.int .i64)) (fun (y : Int) h1 => ∃ j : Nat, y = j ∧ (j : Int) ≤ X.n ∧ RaftAt h0 h1 d { X with since := 0, out := X.out ++ (others X j).map (toMsg X) } F) (fun (y : Int) _ => (X.n - y).toNat)
    ⟨0, rfl, by show (0 : Int) ≤ _; omega, by rw [show others X 0 = [] from rfl, List.map_nil, List.append_nil]; exact H⟩ fun _ (y : Int) h1 hI => ?_
  obtain ⟨j, rfl, hj, H⟩ := hI
  refine brD (fun hc => ?_) fun hc => ?_
  · refine nn (ldR0_ok H X.id (fun _ _ => rfl) ?_)
    rw [w64 (by omega) (by omega)]
    have hol := others_len X j
    have hs := others_succ X j
    refine br bne_iff_ne (fun hne => ?_) fun heq => ?_
    · rw [if_pos hne] at hs
      refine raft_to_ok (k := j) H (hb.of rfl rfl rfl rfl) (by omega) (by rw [List.length_append, List.length_map]; omega) fun h2 H => ?_
      refine ⟨⟨j + 1, by omega, by omega, ?_⟩, by omega⟩
      rw [hs, List.map_append, ← List.append_assoc]
      exact H
    · rw [if_neg heq, List.append_nil] at hs
      exact ⟨⟨j + 1, by omega, by omega, by rw [hs]; exact H⟩, by omega⟩
  · have hjn : X.n.toNat = j := by omega
    unfold rToAll at hR
    rw [hjn] at hR
    exact hR _ H
/-! ## Majorities -/
theorem range_filter {q : Nat → Bool} {n : Nat} : ∀ m, n ≤ m → ((List.range m).filter fun (t : Nat) => decide (t < n) && q t) = (List.range n).filter q
  | 0, h => by
    have : n = 0 := by omega
    subst this; rfl
  | m + 1, h => by
    by_cases e : n = m + 1
    · subst e
      refine List.filter_congr fun t ht => ?_
      rw [decide_eq_true (List.mem_range.1 ht), Bool.true_and]
    · rw [List.range_succ, List.filter_append, range_filter m (by omega)]
      rw [List.filter_cons_of_neg (by simp; omega)]
      simp
theorem cnt_bits {v : Nat} {i : Int} (hb : RB X) (hv : v < 128) (ht : ∀ t : Nat, t < 7 → (v.testBit t = true ↔ ((t : Int) < X.n ∧ ((t : Int) = X.id ∨ X.matc t ≥ i)))) : popT 7 v = cntG X i := by
  have := popT_bits ⟨v, hv⟩
  simp only at this
  rw [this]
  unfold bitsN cntG
  have hn := hb.n7
  rw [← range_filter (n := X.n.toNat) 7 (by omega)]
  congr 1
  refine List.filter_congr fun t h7 => ?_
  have h7 := List.mem_range.1 h7
  rw [Bool.eq_iff_iff, ht t h7, Bool.and_eq_true, decide_eq_true_iff, decide_eq_true_iff]
  constructor
  · rintro ⟨h1, h2⟩; exact ⟨by omega, h2⟩
  · rintro ⟨h1, h2⟩; exact ⟨by omega, h2⟩
theorem testBit_or_pow (g k t : Nat) : (g ||| 2 ^ k).testBit t = true ↔ g.testBit t = true ∨ t = k := by
  rw [Nat.testBit_or, Nat.testBit_two_pow]
  simp only [Bool.or_eq_true, decide_eq_true_eq]
  constructor
  · rintro (h | h); exact .inl h; exact .inr h.symm
  · rintro (h | h); exact .inl h; exact .inr h.symm
theorem agree_succ (X : RN) (i : Nat) : agreeAt X (i + 1) = if ((i + 1 : Nat) : Int) ≤ X.commit then none else if (termAt X.log ((i + 1 : Nat) : Int)).1 ≠ X.term then none else if 2 * (cntG X ((i + 1 : Nat) : Int) : Int) > X.n then some (i + 1) else agreeAt X i := rfl
theorem raft_agree_ok {R : Heap → Prop} (H : RaftAt h0 h d X F) (hb : RB X) (hc0 : 0 ≤ X.commit) (ho : X.out.length ≤ 900000) (hR : ∀ h', RaftAt h0 h' d (rAgree X) F → R h') : C_raft_Node_agree (some ⟨d, 0, none⟩) h R := by
  refine A_raft_Node_agree ?_
  unfold S_raft_Node_agree
  have hn := hb.n7
  have hn1 := hb.n1
  have hi0 := hb.id0
  have hin := hb.idn
  have hl := hb.l
  have H0 := H
  obtain ⟨ty, lg, tl, sl, so, z, hz, H⟩ := H
  refine nn (ldAt (j := 11) H 0 rfl (some ⟨lg, 0, none⟩) rfl ?_)
  refine log_Last_ok H 1 rfl 2 rfl (by omega) ?_
  unfold rAgree at hR
  refine loop1 (s1 := .one (.int .i64)) (fun (y : Int) h1 => ∃ j : Nat, y = j ∧ j ≤ X.log.length ∧ h1 = h ∧ agreeAt X X.log.length = agreeAt X j) (fun (y : Int) _ => y.toNat)
    ⟨X.log.length, rfl, Nat.le_refl _, rfl, rfl⟩ fun _ (y : Int) h1 hI => ?_
  obtain ⟨j, rfl, hj, rfl, hag⟩ := hI
  rw [hag] at hR
  refine nn (ldR_ok (j := 10) H0 X.commit (fun _ _ => rfl) (brD (fun hc => ?_) fun hc => ?_))
  · obtain ⟨i, rfl⟩ : ∃ i, j = i + 1 := ⟨j - 1, by omega⟩
    rw [agree_succ, if_neg (by omega)] at hR hag
    refine nn (ldAt (j := 11) H 0 rfl (some ⟨lg, 0, none⟩) rfl ?_)
    refine log_Term_ok H 1 rfl 2 rfl (by omega) ?_
    refine nn (ldR_ok (j := 4) H0 X.term (fun _ _ => rfl) ?_)
    refine br bne_iff_ne (fun hne => ?_) fun heq => ?_
    · rw [if_pos hne] at hR
      exact hR _ H0
    · rw [if_neg heq] at hR hag
      refine nn (ldR0_ok H0 X.id (fun _ _ => rfl) (nneg ?_ ?_))
      · rw [wu64 (by omega) (by omega)]; omega
      rw [bit_one hi0 (by omega)]
      refine let_ (nn (ldR_ok (j := 1) H0 X.n (fun _ _ => rfl) ?_))
      refine loop2 (s1 := .one (.int .u64)) (s2 := .one (.int .i64)) (fun (v y : Int) h2 => ∃ (w t : Nat), v = w ∧ y = t ∧ (t : Int) ≤ X.n ∧ w < 128 ∧ h2 = h1 ∧ ∀ u : Nat, u < 7 → (w.testBit u = true ↔ ((u : Int) = X.id ∨ (u < t ∧ X.matc u ≥ ((i + 1 : Nat) : Int))))) (fun _ (y : Int) _ => (X.n - y).toNat)
        ⟨2 ^ X.id.toNat, 0, rfl, rfl, by show (0 : Int) ≤ _; omega, pow7 hi0 (by omega), rfl, fun u hu => ?_⟩ fun _ (v y : Int) h2 hI => ?_
      · rw [Nat.testBit_two_pow, decide_eq_true_iff]
        omega
      obtain ⟨w, t, rfl, rfl, htn, hw, rfl, hbit⟩ := hI
      refine brD (fun hc2 => ?_) fun hc2 => ?_
      · refine nn (ldR0_ok H0 X.id (fun _ _ => rfl) ?_)
        rw [w64 (n := (t : Int) + 1) (by omega) (by omega)]
        refine br bne_iff_ne (fun hne => ?_) fun heq2 => ?_
        · refine nn (ixArr t rfl (by omega) ?_)
          refine ldR_ok (j := 21 + t) H0 (X.matc t) (fun lg so => cells_matc X lg so t (by omega)) ?_
          refine brD (fun hge => ?_) fun hlt => ?_
          · refine nneg (by rw [wu64 (by omega) (by omega)]; omega) ?_
            rw [bit_orT hw (by omega) (by omega)]
            refine let_ ⟨⟨w ||| 2 ^ ((t : Int)).toNat, t + 1, rfl, by omega, by omega, or7 hw (by omega) (by omega), rfl, fun u hu => ?_⟩, by omega⟩
            rw [testBit_or_pow, hbit u hu, Int.toNat_natCast]
            constructor
            · rintro ((h | h) | h)
              · exact .inl h
              · exact .inr ⟨by omega, h.2⟩
              · exact .inr ⟨by omega, by rw [h]; exact hge⟩
            · rintro (h | h)
              · exact .inl (.inl h)
              · by_cases e : u = t
                · exact .inr e
                · exact .inl (.inr ⟨by omega, h.2⟩)
          · refine ⟨⟨w, t + 1, rfl, by omega, by omega, hw, rfl, fun u hu => ?_⟩, by omega⟩
            rw [hbit u hu]
            constructor
            · rintro (h | h); exact .inl h; exact .inr ⟨by omega, h.2⟩
            · rintro (h | h)
              · exact .inl h
              · by_cases e : u = t
                · rw [e] at h; exact absurd h.2 hlt
                · exact .inr ⟨by omega, h.2⟩
        · have heq2 : (t : Int) = X.id := Decidable.not_not.1 heq2
          refine ⟨⟨w, t + 1, rfl, by omega, by omega, hw, rfl, fun u hu => ?_⟩, by omega⟩
          rw [hbit u hu]
          constructor
          · rintro (h | h); exact .inl h; exact .inr ⟨by omega, h.2⟩
          · rintro (h | h)
            · exact .inl h
            · by_cases e : u = t
              · rw [e]; exact .inl heq2
              · exact .inr ⟨by omega, h.2⟩
      · have hcnt : popT 7 w = cntG X ((i + 1 : Nat) : Int) := cnt_bits hb hw fun u hu => by
          rw [hbit u hu]
          constructor
          · rintro (h | h)
            · exact ⟨by omega, .inl h⟩
            · exact ⟨by omega, .inr h.2⟩
          · rintro ⟨h1, h | h⟩
            · exact .inl h
            · exact .inr ⟨by omega, h⟩
        have hmost : mostB X w ↔ 2 * (cntG X ((i + 1 : Nat) : Int) : Int) > X.n := by unfold mostB; rw [hcnt]
        refine raft_most_ok H0 hw (brD (fun hm => ?_) fun hm => ?_)
        · rw [if_pos (hmost.1 hm)] at hR
          refine nn (stR_ok (j := 10) { X with commit := ((i + 1 : Nat) : Int) } H0 rfl rfl rfl (fun _ _ => rfl) fun h3 H => ?_)
          exact raft_toAll_ok H (hb.of rfl rfl rfl rfl) ho hR
        · rw [if_neg fun x => hm (hmost.2 x)] at hag
          rw [w64 (by omega) (by omega)]
          exact let_ ⟨⟨i, by omega, by omega, rfl, hag⟩, by omega⟩
  · have e : agreeAt X j = none := by
      cases j with
      | zero => rfl
      | succ i => rw [agree_succ, if_pos (by omega)]
    rw [e] at hR
    exact hR _ H0
end
end Go.Proofs.Ytniojdaddolnfaa
