/-
  Layer 14 (chase): an act, what the document fixes; ChasePlays and ChaseOldest over the heap alone.
-/
import Derived.Test.YtmpekddpehhdnaaKr
import Derived.Test.YtmpekddpehhdnaaSKL
import Derived.Test.YtmpekddpehhdnaaQ
import Derived.Test.YtmpekddpehhdnaaH
namespace Go.Proofs.Ytmpekddpehhdnaa
open Go

def eKAct : Enc KAct 4 := ⟨fun a => [.int .u8 a.kind, .int .i64 a.a, .int .i64 a.b, .int .i64 a.site], fun _ => rfl, by decide, fun x u hu => by
  simp only [List.mem_cons, List.not_mem_nil, or_false] at hu
  rcases hu with rfl | rfl | rfl | rfl <;> rfl⟩
section
variable {h0 h : Heap} {F : List Res} {d dr s k N : Nat} {C : CF}
theorem At.sub {L L' : List Res} (H : At h0 h L) (p : L'.Sublist L) : At h0 h L' := ⟨H.ext, fun r hr => H.ok r (p.subset hr), fun r hr => H.lo r (p.subset hr), H.sep.sublist p⟩
theorem FldAt.raw (H : FldAt h0 h d s k C F) : ∃ X, At h0 h (F ++ X) ∧ ∀ h' F', At h0 h' (F' ++ X) → FldAt h0 h' d s k C F' := by
  obtain ⟨ty, sn, nq, fq, vq, z, mz, hz, hm, hmk, hsr, H⟩ := H
  exact ⟨_, H, fun h' F' H => ⟨ty, sn, nq, fq, vq, z, mz, hz, hm, hmk, hsr, H⟩⟩
theorem FldAt.sub {F' : List Res} (H : FldAt h0 h d s k C F) (p : F'.Sublist F) : FldAt h0 h d s k C F' := by
  obtain ⟨X, H, back⟩ := H.raw
  exact back _ _ (H.sub (List.Sublist.append_right p X))
theorem FldAt.alloc {t : TypeId} {cs : List Value} {K : Addr → Heap → Prop} (H : FldAt h0 h d s k C F) (hk : ∀ h' b, FldAt h0 h' d s k C (.blk b t cs :: F) → K ⟨b, 0, none⟩ h') : Alloc h (.cells cs.toArray t) K := by
  obtain ⟨X, H, back⟩ := H.raw
  exact allocAt H fun h' b H => hk h' b (back _ (_ :: F) H)
/-- The field and the document's rows. -/
def BothAt (h0 h : Heap) (d dr s k : Nat) (C : CF) (F : List Res) : Prop :=
  ∃ ty sN sE sH sF sV E Hd, RelK C E Hd ∧ E.length ≤ k ∧ Hd.length ≤ k ∧ FldAt h0 h d s k C (ref6 dr ty s sN sE sH sF sV C E Hd ++ F)
theorem BothAt.sub {F' : List Res} (H : BothAt h0 h d dr s k C F) (p : F'.Sublist F) : BothAt h0 h d dr s k C F' := by
  obtain ⟨ty, sN, sE, sH, sF, sV, E, Hd, h1, h2, h3, H⟩ := H
  exact ⟨ty, sN, sE, sH, sF, sV, E, Hd, h1, h2, h3, H.sub (List.Sublist.append_left p _)⟩
theorem BothAt.alloc {t : TypeId} {cs : List Value} {K : Addr → Heap → Prop} (H : BothAt h0 h d dr s k C F) (hk : ∀ h' b, BothAt h0 h' d dr s k C (.blk b t cs :: F) → K ⟨b, 0, none⟩ h') : Alloc h (.cells cs.toArray t) K := by
  obtain ⟨ty, sN, sE, sH, sF, sV, E, Hd, h1, h2, h3, H⟩ := H
  exact H.alloc fun h' b H => hk h' b ⟨ty, sN, sE, sH, sF, sV, E, Hd, h1, h2, h3, H.perm (List.perm_middle.symm)⟩
theorem BothAt.mono {k' : Nat} (H : BothAt h0 h d dr s k C F) (hk : k ≤ k') : BothAt h0 h d dr s k' C F := by
  obtain ⟨ty, sN, sE, sH, sF, sV, E, Hd, h1, h2, h3, H⟩ := H
  exact ⟨ty, sN, sE, sH, sF, sV, E, Hd, h1, by omega, by omega, H.mono hk⟩
theorem BothAt.ext (H : BothAt h0 h d dr s k C F) : Ext h0.size h0 h := by
  obtain ⟨ty, sN, sE, sH, sF, sV, E, Hd, h1, h2, h3, H⟩ := H
  exact H.ats.ext
set_option maxHeartbeats 1600000 in
theorem law14_do_ok {a : KAct} {R : Bool → Heap → Prop} (H : BothAt h0 h d dr s k C F) (ho : COk s N C) (hN : N ≤ 1000) (hk : k ≤ 1000) (hfl : C.fl.length ≤ 100000) (hkd : 0 ≤ a.kind)
    (hR : ∀ h', BothAt h0 h' d dr s (k + 1) (kAct s C a) F → R true h') : C_law14_do (some ⟨d, 0, none⟩) (some ⟨dr, 0, none⟩) (a.kind, a.a, a.b, a.site, ()) h R := by
  refine A_law14_do ?_
  unfold S_law14_do
  obtain ⟨ty, sN, sE, sH, sF, sV, E, Hd, hr, hE, hH, H⟩ := H
  refine FldAt.alloc (cs := [.int .u8 a.kind, .int .i64 a.a, .int .i64 a.b, .int .i64 a.site]) H fun h b H => ?_
  have H := H.perm (List.perm_middle (l₁ := ref6 dr ty s sN sE sH sF sV C E Hd)).symm
  refine ldAt0 H.ats 6 rfl a.kind rfl (nz (by decide) ?_)
  rw [rem_nonneg hkd]
  unfold kAct at hR
  have sl : ∀ (A : List Res) (q : Res), (A ++ F).Sublist (A ++ (q :: F)) := fun A q => List.Sublist.append_left (List.sublist_cons_self ..) _
  refine join0 (fun h1 => h1 = h ∧ a.kind % 8 ≠ 0 ∧ a.kind % 8 ≠ 1 ∧ a.kind % 8 ≠ 2 ∧ a.kind % 8 ≠ 3 ∧ a.kind % 8 ≠ 6 ∧ a.kind % 8 ≠ 7) (fun _ h1 hJ => ?_) ?_
  · obtain ⟨rfl, n0, n1, n2, n3, n6, n7⟩ := hJ
    rw [if_neg n0, if_neg (by omega), if_neg n3, if_neg n6, if_neg n7] at hR
    refine ldAt (j := 1) H.ats 6 rfl a.a rfl ?_
    refine chase_Deliver_ok H ho (by omega) (by omega) (by omega) fun h2 H => ?_
    refine ldAt (j := 1) H.ats 6 rfl a.a rfl ?_
    obtain ⟨X, H, back⟩ := H.raw
    rw [List.append_assoc] at H
    refine ref14_Deliver_ok H ho hr (by omega) (by omega) (by omega) (by omega) fun h3 sH' sF' sV' Hd' H hr' hl => ?_
    rw [← List.append_assoc] at H
    refine brY (beq_self_eq_true _) (brY (beq_self_eq_true _) ?_)
    rw [beq_self_eq_true]
    exact hR _ ⟨ty, sN, sE, sH', sF', sV', E, Hd', hr', by omega, by omega, (back _ _ H).sub (sl _ _)⟩
  refine br beq_iff_eq (fun h0' => ?_) fun n0 => ?_
  · rw [if_pos h0'] at hR
    refine ldAt (j := 1) H.ats 6 rfl a.a rfl (ldAt (j := 2) H.ats 6 rfl a.b rfl (ldAt (j := 3) H.ats 6 rfl a.site rfl (ldAt (j := 1) H.ats 6 rfl a.a rfl (ldAt (j := 2) H.ats 6 rfl a.b rfl (ldAt (j := 3) H.ats 6 rfl a.site rfl ?_)))))
    refine chase_Node_ok H ho fun h2 H => ?_
    refine ⟨ldAt (j := 1) H.ats 6 rfl _ rfl rfl, ldAt (j := 2) H.ats 6 rfl _ rfl rfl, ldAt (j := 3) H.ats 6 rfl _ rfl rfl, ?_⟩
    obtain ⟨X, H, back⟩ := H.raw
    rw [List.append_assoc] at H
    refine ref14_Node_ok H ho fun h3 sN' H => ?_
    rw [← List.append_assoc] at H
    rw [beq_self_eq_true]
    exact hR _ ⟨ty, sN', sE, sH, sF, sV, E, Hd, hr.node ho _ _ _, by omega, by omega, ((back _ _ H).sub (sl _ _)).mono (by omega)⟩
  rw [if_neg n0] at hR
  refine join1 (s1 := .one .bool) (fun (q : Bool) h1 => (q = true ↔ (a.kind % 8 = 1 ∨ a.kind % 8 = 2)) ∧ h1 = h) (fun _ (q : Bool) h1 hJ => ?_) ?_
  rotate_left
  · refine br beq_iff_eq (fun h1 => ⟨⟨fun _ => .inl h1, fun _ => beq_iff_eq.2 h1⟩, rfl⟩) fun h1 => ⟨?_, rfl⟩
    rw [beq_iff_eq]
    exact ⟨fun x => .inr x, fun x => x.resolve_left h1⟩
  obtain ⟨hq, rfl⟩ := hJ
  refine brB (fun hqt => ?_) fun hqf => ?_
  · rw [if_pos (hq.1 hqt)] at hR
    refine ldAt (j := 1) H.ats 6 rfl a.a rfl (ldAt (j := 2) H.ats 6 rfl a.b rfl (ldAt (j := 1) H.ats 6 rfl a.a rfl (ldAt (j := 2) H.ats 6 rfl a.b rfl ?_)))
    refine chase_Edge_ok H ho fun h2 H => ?_
    refine ⟨ldAt (j := 1) H.ats 6 rfl _ rfl rfl, ldAt (j := 2) H.ats 6 rfl _ rfl rfl, ?_⟩
    obtain ⟨X, H, back⟩ := H.raw
    rw [List.append_assoc] at H
    refine ref14_Edge_ok H ho hr (by omega) fun h3 sE' E' H hr' hl => ?_
    rw [← List.append_assoc] at H
    rw [beq_self_eq_true]
    exact hR _ ⟨ty, sN, sE', sH, sF, sV, E', Hd, hr', by omega, by omega, ((back _ _ H).sub (sl _ _)).mono (by omega)⟩
  have n12 : ¬ (a.kind % 8 = 1 ∨ a.kind % 8 = 2) := fun x => by rw [hq.2 x] at hqf; exact nomatch hqf
  rw [if_neg n12] at hR
  refine br beq_iff_eq (fun h3' => ?_) fun n3 => ?_
  · rw [if_pos h3'] at hR
    refine ldAt (j := 1) H.ats 6 rfl a.a rfl ?_
    refine chase_Begin_ok H ho (by omega) (by omega) fun h2 H => ?_
    refine ldAt (j := 1) H.ats 6 rfl a.a rfl ?_
    obtain ⟨X, H, back⟩ := H.raw
    rw [List.append_assoc] at H
    refine ref14_Begin_ok H ho hr (by omega) (by omega) (by omega) fun h3 sF' H hr' => ?_
    rw [← List.append_assoc] at H
    refine brY (beq_self_eq_true _) ?_
    rw [beq_self_eq_true]
    exact hR _ ⟨ty, sN, sE, sH, sF', sV, E, Hd, hr', by omega, by omega, ((back _ _ H).sub (sl _ _)).mono (by omega)⟩
  rw [if_neg n3] at hR
  refine br beq_iff_eq (fun h6' => ?_) fun n6 => ?_
  · rw [if_pos h6'] at hR
    refine ldAt (j := 1) H.ats 6 rfl a.a rfl ?_
    obtain ⟨X, H, back⟩ := H.raw
    rw [List.append_assoc] at H
    have fin : ∀ (h2 : Heap) (p : KL [.int .i64, .int .i64, .int .i64, .int .i64]) (sF' : Sl) (e : Int), e = (kDrop C a.a).2 → FldAt h0 h2 d s k C (ref6 dr ty s sN sE sH sF' sV (kDrop C a.a).1 E Hd ++ (.blk b 97 [.int .u8 a.kind, .int .i64 a.a, .int .i64 a.b, .int .i64 a.site] :: F)) →
        Alloc h2 (.cells #[.int .i64 0, .int .i64 0, .int .i64 0, .int .i64 0] 37) fun q h_12 => St h_12 q (.int .i64 p.1) fun h_13 => St h_13 (q.add 1) (.int .i64 p.2.1) fun h_14 => St h_14 (q.add 2) (.int .i64 p.2.2.1) fun h_15 => St h_15 (q.add 3) (.int .i64 p.2.2.2.1) fun h_16 =>
          Ld (.int .i64) h_16 ((⟨b, 0, none⟩ : Addr).add 1) fun (A11 : Int) => C_chase_Field_Drop (some ⟨d, 0, none⟩) A11 h_16 fun (r17 : Int) h_17 => R (r17 == e) h_17 := fun h2 p sF' e he H => by
      obtain ⟨X, H, back⟩ := H.raw
      refine allocAt (cs := [.int .i64 0, .int .i64 0, .int .i64 0, .int .i64 0]) H fun h b2 H => ?_
      repeat (first | with_reducible refine nn ?_ | with_reducible refine let_ ?_ | with_reducible refine brSome ?_ | with_reducible refine brF ?_ | with_reducible refine brT ?_ | ((with_reducible apply ldAt H 0); exact rfl; exact rfl) | ((with_reducible apply ldAt0 H 0); exact rfl; exact rfl) | ((with_reducible apply ldAt H 7); exact rfl; exact rfl) | ((with_reducible apply ldAt0 H 7); exact rfl; exact rfl) | ((with_reducible apply stAt H 0); exact rfl; exact rfl; intro h H) | ((with_reducible apply stAt0 H 0); exact rfl; exact rfl; intro h H) | ((with_reducible apply stAt H 7); exact rfl; exact rfl; intro h H) | ((with_reducible apply stAt0 H 7); exact rfl; exact rfl; intro h H) | ((with_reducible refine ⟨?_, ?_⟩); first | ((with_reducible apply ldAt H 0); exact rfl; exact rfl; exact rfl) | ((with_reducible apply ldAt0 H 0); exact rfl; exact rfl; exact rfl) | ((with_reducible apply ldAt H 7); exact rfl; exact rfl; exact rfl) | ((with_reducible apply ldAt0 H 7); exact rfl; exact rfl; exact rfl)))
      have H := back _ _ H.tail
      refine chase_Drop_ok H (by omega) fun h3 H => ?_
      rw [he, beq_self_eq_true]
      refine hR _ ⟨ty, sN, sE, sH, sF', sV, E, Hd, ?_, by omega, by omega, (H.sub (sl _ _)).mono (by omega)⟩
      unfold kDrop
      split
      · exact hr.rest _ _
      · exact hr
    refine ref14_Take_ok H (by omega) (fun hno h3 H => ?_) fun hin h3 sF' H => ?_
    · rw [← List.append_assoc] at H
      have e1 : (kDrop C a.a) = (C, 6) := by unfold kDrop; rw [if_neg hno]
      exact fin h3 _ sF 6 (by rw [e1]) (by rw [e1]; exact back _ _ H)
    · rw [← List.append_assoc] at H
      have e1 : (kDrop C a.a) = (kTake C a.a.toNat, 0) := by unfold kDrop; rw [if_pos hin]
      exact fin h3 _ sF' 0 (by rw [e1]) (by rw [e1]; exact back _ _ H)
  rw [if_neg n6] at hR
  refine br beq_iff_eq (fun h7' => ?_) fun n7 => ⟨rfl, n0, fun x => n12 (.inl x), fun x => n12 (.inr x), n3, n6, n7⟩
  rw [if_pos h7'] at hR
  refine ldAt (j := 1) H.ats 6 rfl a.a rfl (ldAt (j := 1) H.ats 6 rfl a.a rfl ?_)
  refine chase_Double_ok H (by omega) fun h2 H => ?_
  refine ⟨ldAt (j := 1) H.ats 6 rfl _ rfl rfl, ?_⟩
  obtain ⟨X, H, back⟩ := H.raw
  rw [List.append_assoc] at H
  refine ref14_Double_ok H (by omega) fun h3 sF' H => ?_
  rw [← List.append_assoc] at H
  rw [beq_self_eq_true]
  refine hR _ ⟨ty, sN, sE, sH, sF', sV, E, Hd, ?_, by omega, by omega, ((back _ _ H).sub (sl _ _)).mono (by omega)⟩
  unfold kDouble
  split
  · exact hr.rest _ _
  · exact hr
/-! ## The same -/
theorem cp_eqL (a b : CP) : eqL (eCP.cells a) (eCP.cells b) = true ↔ a = b := by
  cases a; cases b
  simp [eCP, eqL, eqB]
theorem law14_sameP_ok {a b : Sl} {xs : List CP} {R : Bool → Heap → Prop} (A : RdS h 4 a (eCP.fl xs)) (B : RdS h 4 b (eCP.fl xs)) (hlen : xs.length ≤ 10000000) (hR : R true h) : C_law14_same_api_Probe a b h R := by
  refine A_law14_same_api_Probe ?_
  unfold S_law14_same_api_Probe
  have ha := rdn A
  have hb := rdn B
  refine brN (by rw [ha, hb]; simp) ?_
  refine loop1 (s1 := .one (.int .i64)) (fun (x : Int) h1 => ∃ j : Nat, x = j ∧ j ≤ xs.length ∧ h1 = h) (fun (x : Int) _ => (xs.length - x).toNat)
    ⟨0, rfl, Nat.zero_le _, rfl⟩ fun _ (x : Int) h1 hI => ?_
  obtain ⟨j, rfl, hj, rfl⟩ := hI
  refine brD (fun hc => ?_) fun hc => hR
  have hj2 : j < xs.length := by omega
  refine ixR A j rfl hj2 fun e he => ?_
  refine ldR0 A he hj2 _ rfl (ldR (j := 1) A he hj2 _ rfl (ldR (j := 2) A he hj2 _ rfl (ldR (j := 3) A he hj2 _ rfl ?_)))
  refine ixR B j rfl hj2 fun e he => ?_
  refine ldR0 B he hj2 _ rfl (ldR (j := 1) B he hj2 _ rfl (ldR (j := 2) B he hj2 _ rfl (ldR (j := 3) B he hj2 _ rfl ?_)))
  refine opNeq (us := eCP.cells xs[j]) (vs := eCP.cells xs[j]) (by kernel_rfl) (brN (by rw [(cp_eqL _ _).2 rfl]; rfl) ?_)
  rw [w64 (by omega) (by omega)]
  exact ⟨⟨j + 1, by omega, by omega, rfl⟩, by omega⟩
theorem law14_sameI_ok {a b : Sl} {xs : List Int} {R : Bool → Heap → Prop} (A : RdS h 1 a (eNum.fl xs)) (B : RdS h 1 b (eNum.fl xs)) (hlen : xs.length ≤ 10000000) (hR : R true h) : C_law14_same_int a b h R := by
  refine A_law14_same_int ?_
  unfold S_law14_same_int
  have ha := rdn A
  have hb := rdn B
  refine brN (by rw [ha, hb]; simp) ?_
  refine loop1 (s1 := .one (.int .i64)) (fun (x : Int) h1 => ∃ j : Nat, x = j ∧ j ≤ xs.length ∧ h1 = h) (fun (x : Int) _ => (xs.length - x).toNat)
    ⟨0, rfl, Nat.zero_le _, rfl⟩ fun _ (x : Int) h1 hI => ?_
  obtain ⟨j, rfl, hj, rfl⟩ := hI
  refine brD (fun hc => ?_) fun hc => hR
  have hj2 : j < xs.length := by omega
  refine ixR A j rfl hj2 fun e he => ?_
  refine ldR0 A he hj2 xs[j] rfl ?_
  refine ixR B j rfl hj2 fun e he => ?_
  refine ldR0 B he hj2 xs[j] rfl ?_
  refine brN (by simp) ?_
  rw [w64 (by omega) (by omega)]
  exact ⟨⟨j + 1, by omega, by omega, rfl⟩, by omega⟩
/-! ## What the document fixes -/
def kx1 : CF := ⟨[⟨1, 5, 0, 0, []⟩], [], [], fun _ _ => 0⟩
def kx2 : CF := ⟨[⟨1, 5, 0, 0, []⟩, ⟨2, 9, 1, 0, []⟩], [], [], fun _ _ => 0⟩
def kx3 : CF := ⟨[⟨1, 5, 0, 0, [2]⟩, ⟨2, 9, 1, 0, []⟩], [], [], fun _ _ => 0⟩
def kx4 : CF := ⟨[⟨1, 5, 0, 0, [2]⟩, ⟨2, 9, 1, 0, [1]⟩], [], [], fun _ _ => 0⟩
def kx5 : CF := ⟨[⟨1, 5, 0, 1, [2]⟩, ⟨2, 9, 1, 0, [1]⟩], [], [], fun _ _ => 0⟩
def kx6 : CF := ⟨[⟨1, 5, 0, 1, [2]⟩, ⟨2, 9, 1, 1, [1]⟩], [⟨2, 9, 1, 1⟩], [], fun _ _ => 0⟩
def kx7 : CF := ⟨[⟨1, 5, 0, 1, [2]⟩, ⟨2, 9, 1, 1, [1]⟩], [⟨2, 9, 1, 2⟩], [], fun x a => if x = 2 ∧ a = 1 then 1 else 0⟩
def kx8 : CF := ⟨[⟨1, 5, 0, 1, [2]⟩, ⟨2, 9, 1, 1, [1]⟩], [], [2], fun x a => if x = 2 ∧ a = 1 then 1 else 0⟩
theorem ky1 : kNode 2 kNew 1 5 0 = (kx1, 0) := rfl
theorem ky2 : kNode 2 kx1 2 9 1 = (kx2, 0) := rfl
theorem ky3 : kEdge kx2 1 2 = (kx3, 0) := rfl
theorem ky4 : kEdge kx3 2 1 = (kx4, 0) := rfl
theorem ky5 : kBegin kx4 1 = (kx5, 1, 0) := rfl
theorem ky6 : kBegin kx5 2 = (kx6, 1, 0) := rfl
theorem ky7 : kDeliver kx6 0 = (kx7, 0, false, 0) := rfl
theorem ky8 : kDeliver kx7 0 = (kx8, 2, true, 0) := rfl
theorem ky9 : kDeliver kx8 0 = (kx8, 0, false, 6) := rfl
theorem ky10 : kNode 2 kx8 1 5 0 = (kx8, 8) := rfl
theorem ky11 : kEdge kx8 1 1 = (kx8, 1) := rfl
end
end Go.Proofs.Ytmpekddpehhdnaa
