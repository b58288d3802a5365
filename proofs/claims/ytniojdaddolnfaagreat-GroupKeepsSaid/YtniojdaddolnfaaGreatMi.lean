/-
  Several of the proof's texts in one: Gj, Gk, Gl.
-/
import Derived.Test.YtniojdaddolnfaaGreatMh
import Derived.Test.YtniojdaddolnfaaGreatMf
import Derived.Maps.OwnSet
import Derived.Carry
import Derived.DeepKeys4
set_option linter.unusedVariables false
set_option linter.unusedSimpArgs false

/-
  Layer 10 (group): what the document fixes; which scripts are asked.
-/
namespace Go.Proofs.YtniojdaddolnfaaGreat
open Go

/-! ## A short script -/
def fewP (xs : List ST) : Prop := (∀ s ∈ xs, s.data.size ≤ 100) ∧ xs.length ≤ 400
instance (xs : List ST) : Decidable (fewP xs) := by unfold fewP; infer_instance
theorem law10_few_ok {h : Heap} {sl : Sl} {xs : List ST} {R : Bool → Heap → Prop} (A : RdS h 8 sl (eSTP.fl xs)) (hl : xs.length ≤ 1000000000000000) (hR : ∀ h', Ext h.size h h' → R (decide (fewP xs)) h') : C_law10_few sl h R := by
  refine A_law10_few ?_
  unfold S_law10_few
  have hn := rdn A
  have H := At.start h
  refine loop1 (s1 := .one (.int .i64)) (fun (y : Int) h1 => ∃ j : Nat, y = j ∧ j ≤ xs.length ∧ (∀ s ∈ xs.take j, s.data.size ≤ 100) ∧ At h h1 []) (fun (y : Int) _ => (xs.length - y).toNat)
    ⟨0, rfl, Nat.zero_le _, (fun s hs => by cases hs), H⟩ fun _ (y : Int) h1 hI => ?_
  obtain ⟨j, rfl, hj, hall, H⟩ := hI
  refine brD (fun hc => ?_) fun hc => ?_
  · have hj2 : j < xs.length := by omega
    have A1 := H.arg A
    refine ixR A1 j rfl hj2 fun e he => ld8E A1 he hj2 ?_
    refine allocAt (cs := stS s0) H fun h2 b H => ?_
    refine st8B (s := xs[j]) H fun h3 H => ldAt (j := 7) H 0 rfl xs[j].data rfl (brD (fun hb => ?_) fun hb => ?_)
    · have := hR h3 H.ext
      rwa [decide_eq_false (fun x => by have := x.1 _ (List.getElem_mem hj2); omega)] at this
    · rw [w64 (by omega) (by omega)]
      refine ⟨⟨j + 1, by omega, by omega, fun s hs => ?_, H.tail⟩, by omega⟩
      rw [List.take_add_one, List.getElem?_eq_getElem hj2] at hs
      rcases List.mem_append.1 hs with hs | hs
      · exact hall s hs
      · rw [List.mem_singleton.1 hs]; omega
  · have hjl : j = xs.length := by omega
    rw [hjl, List.take_length] at hall
    have := hR h1 H.ext
    have e : decide ((sl.n : Int) ≤ 400) = decide (fewP xs) := by
      rw [decide_eq_decide]
      exact ⟨fun x => ⟨hall, by omega⟩, fun x => by have := x.2; omega⟩
    rw [e]; exact this
/-! ## One node alone -/
def sT : ST := ⟨1, 0, 0, 0, 0, 0, 0, ⟨#[]⟩⟩
def sP : ST := ⟨5, 0, 0, 0, 0, 0, 0, ⟨#[120]⟩⟩
def sC : ST := ⟨6, 0, 0, 0, 3, -1, 0, ⟨#[]⟩⟩
def sR : ST := ⟨7, 0, 0, 0, 0, 0, 0, ⟨#[]⟩⟩
def wN (i : Int) : RN := { rNew 0 1 4 2 0 (-1) [] with since := i }
def yA : RN := rTick (wN 3) 0
def yB : RN := (rPropose (rClean yA) ⟨#[120]⟩).1
theorem yA_role : yA.role = 3 := by kernel_rfl
theorem yA_out : yA.out = [] := by kernel_rfl
theorem yA_log : yA.log = [⟨1, ⟨#[]⟩⟩] := by kernel_rfl
theorem yB_code : (rPropose (rClean yA) ⟨#[120]⟩).2.2 = 0 := by kernel_rfl
theorem yB_out : yB.out = [] := by kernel_rfl
theorem yB_log : yB.log = [⟨1, ⟨#[]⟩⟩, ⟨1, ⟨#[120]⟩⟩] := by kernel_rfl
theorem yB_from : yB.from_ = 2 := by kernel_rfl
theorem wrM_room : ∀ (rs : List WRec) (b : List UInt8), b.length + (recsM rs).length ≤ 1048576 → wrM b rs = (b ++ recsM rs, true)
  | [], b, _ => by show (b, true) = (b ++ [], true); rw [List.append_nil]
  | r :: rs, b, h => by
    rw [recsM_cons, List.length_append] at h
    unfold wrM
    rw [if_neg (by omega), wrM_room rs (b ++ recM r) (by rw [List.length_append]; omega), recsM_cons, List.append_assoc]
set_option maxRecDepth 100000 in
theorem gSave_size {Y : RN} (hd : ∀ e ∈ Y.log, e.data.size ≤ 512) : (recsM (gSave Y)).length ≤ (Y.log.length + 1) * 627 := by
  unfold gSave
  split
  · exact Nat.zero_le _
  · have h1 := savR_size (s := savOf Y) fun e he => by
      obtain ⟨x, hx, rfl⟩ := List.mem_map.1 he
      rw [size_toE]
      have hx2 : x ∈ Y.log := by
        unfold savedL at hx
        split at hx
        · exact fromL_mem hx
        · cases hx
      have := hd x hx2
      omega
    have h2 : (savOf Y).es.length ≤ Y.log.length := by
      show ((savedL Y).map toE).length ≤ _
      rw [List.length_map]
      unfold savedL fromL
      split
      · rw [List.length_take, List.length_drop]; omega
      · exact Nat.zero_le _
    have h3 : ((savOf Y).es.length + 1) * 627 ≤ (Y.log.length + 1) * 627 := Nat.mul_le_mul_right _ (by omega)
    omega
def bA : List UInt8 := recsM (gSave yA)
def bB : List UInt8 := bA ++ recsM (gSave yB)
theorem yA_d : ∀ e ∈ yA.log, e.data.size ≤ 512 := by
  rw [yA_log]; intro e he; rw [List.mem_singleton.1 he]; decide
theorem yB_d : ∀ e ∈ yB.log, e.data.size ≤ 512 := by
  rw [yB_log]; intro e he
  rcases List.mem_cons.1 he with rfl | he
  · decide
  · rw [List.mem_singleton.1 he]; decide
theorem bA_len : bA.length ≤ 1254 := by
  have := gSave_size yA_d
  rw [yA_log] at this
  exact this
theorem bB_len : bB.length ≤ 3135 := by
  have := gSave_size yB_d
  rw [yB_log] at this
  have h1 := bA_len
  unfold bB
  rw [List.length_append]
  have h2 : (recsM (gSave yB)).length ≤ 1881 := this
  omega
theorem wait_step (i : Int) (h : i = 0 ∨ i = 1 ∨ i = 2) : gDo ⟨[⟨some (wN i), [], 0⟩], []⟩ sT = (⟨[⟨some (wN (i + 1)), [], 0⟩], []⟩, 0) := by
  rcases h with rfl | rfl | rfl <;> kernel_rfl
theorem comes_eq {G : GS} {i : Nat} {q : GN} {Y : RN} {e : Int} {b' : List UInt8} (hw : wrM q.b (gSave Y) = (b', true)) (ho : Y.out = []) (hn : G.net = []) : gComes G i q Y e = (⟨G.l.set i ⟨some (rClean Y), b', b'.length⟩, []⟩, e) := by
  unfold gComes
  rw [hw]
  rw [if_pos rfl, ho, hn]
  rfl
theorem tick_eq (X : RN) (b : List UInt8) (n : Nat) : gDo ⟨[⟨some X, b, n⟩], []⟩ sT = gComes ⟨[⟨some X, b, n⟩], []⟩ 0 ⟨some X, b, n⟩ (rTick X 0) 0 := rfl
theorem propose_eq (X : RN) (b : List UInt8) (n : Nat) : gDo ⟨[⟨some X, b, n⟩], []⟩ sP = gComes ⟨[⟨some X, b, n⟩], []⟩ 0 ⟨some X, b, n⟩ (rPropose X ⟨#[120]⟩).1 (rPropose X ⟨#[120]⟩).2.2 := rfl
theorem wA : wrM [] (gSave yA) = (bA, true) := by
  have h : (recsM (gSave yA)).length ≤ 1254 := bA_len
  rw [wrM_room (gSave yA) [] (by rw [List.length_nil]; omega), List.nil_append]
  rfl
theorem wB : wrM bA (gSave yB) = (bB, true) := by
  have h := bB_len
  unfold bB at h
  rw [List.length_append] at h
  rw [wrM_room (gSave yB) bA (by omega)]
  rfl
theorem lead_step : gDo ⟨[⟨some (wN 3), [], 0⟩], []⟩ sT = (⟨[⟨some (rClean yA), bA, bA.length⟩], []⟩, 0) := by
  rw [tick_eq]
  exact comes_eq (q := ⟨some (wN 3), [], 0⟩) (Y := yA) wA yA_out rfl
theorem prop_step : gDo ⟨[⟨some (rClean yA), bA, bA.length⟩], []⟩ sP = (⟨[⟨some (rClean yB), bB, bB.length⟩], []⟩, 0) := by
  rw [propose_eq, yB_code]
  exact comes_eq (q := ⟨some (rClean yA), bA, bA.length⟩) (Y := yB) wB yB_out rfl
theorem crash_step : gDo ⟨[⟨some (rClean yB), bB, bB.length⟩], []⟩ sC = (⟨[⟨none, bB, bB.length⟩], []⟩, 0) := by
  show (GS.mk [⟨none, crashL bB bB.length 3 (-1) 0, bB.length⟩] [], (0 : Int)) = _
  obtain ⟨kp, a, hcr⟩ := crash_form (b := bB) (t := []) (keep := 3) (at_ := -1) (c := 0)
  rw [List.append_nil, List.take_nil, flp_nil, List.append_nil] at hcr
  rw [hcr]
theorem down_eq (b : List UInt8) (n : Nat) : gDo ⟨[⟨none, b, n⟩], []⟩ sT = (⟨[⟨none, b, n⟩], []⟩, 12) := rfl
theorem down_step : gDo ⟨[⟨none, bB, bB.length⟩], []⟩ sT = (⟨[⟨none, bB, bB.length⟩], []⟩, 12) := down_eq _ _
def gA : GS := ⟨[⟨some (rClean yA), bA, bA.length⟩], []⟩
def gB : GS := ⟨[⟨some (rClean yB), bB, bB.length⟩], []⟩
def gC : GS := ⟨[⟨none, bB, bB.length⟩], []⟩
theorem inv_of {k S : Nat} {G G' : GS} {c : Int} {s : ST} (h : ∃ g, GInv k g S G) (e : gDo G s = (G', c)) : ∃ g, GInv k g (S + 1) G' := by
  obtain ⟨g, I⟩ := h
  obtain ⟨g', _, I'⟩ := gDo_inv I s
  rw [e] at I'
  exact ⟨g', I'⟩
theorem inv0 : ∃ g, GInv 1 g 0 ⟨[⟨some (wN 0), [], 0⟩], []⟩ := ⟨_, gNew_inv (Nat.le_refl _) (by decide)⟩
theorem inv3 : ∃ g, GInv 1 g 3 ⟨[⟨some (wN 3), [], 0⟩], []⟩ := inv_of (inv_of (inv_of inv0 (wait_step 0 (by omega))) (wait_step 1 (by omega))) (wait_step 2 (by omega))
theorem invA : ∃ g, GInv 1 g 4 gA := inv_of inv3 lead_step
theorem invB : ∃ g, GInv 1 g 5 gB := inv_of invA prop_step
theorem invC : ∃ g, GInv 1 g 6 gC := inv_of invB crash_step
theorem backB : ∃ rs : List WRec, bB = recsM rs ∧ (∀ r ∈ rs, r.ok) ∧ playM rs = some (sttOf (rClean yB)) ∧ 0 < bB.length := by
  obtain ⟨g, I⟩ := invB
  have u := (I.seat 0 _ rfl).up _ rfl
  obtain ⟨rs, h1, h2, h3⟩ := u.dk
  have h2 : bB = recsM rs := h2
  refine ⟨rs, h2, h1, ?_, ?_⟩
  · unfold playM
    rw [h3]
    simp only
    have z := u.bn.sz
    have hr : rightM (sttOf (rClean yB)) = true := (rts_of z u.ni.d ⟨z.t0, z.t1⟩ ⟨z.v0, z.v1⟩ z.n z.d).right
    rw [if_pos hr]
  · rw [h2]
    cases rs with
    | nil =>
      have h3 : some st0 = some (sttOf (rClean yB)) := h3
      injection h3 with h3
      have := congrArg (fun s : Stt => s.es.length) h3
      have e : (sttOf (rClean yB)).es.length = yB.log.length := List.length_map ..
      have this : st0.es.length = (sttOf (rClean yB)).es.length := this
      rw [e, yB_log] at this
      exact absurd this (by decide)
    | cons r rs =>
      rw [recsM_cons, List.length_append, recM_length]; omega
def gD : GS := ⟨[⟨some (gBack 1 0 (sttOf (rClean yB))), bB, bB.length⟩], []⟩
theorem restart_eq (b : List UInt8) (n : Nat) : gDo ⟨[⟨none, b, n⟩], []⟩ sR = gRestart ⟨[⟨none, b, n⟩], []⟩ 0 ⟨none, b, n⟩ := rfl
theorem back_eq {b : List UInt8} {n : Nat} {rs : List WRec} {st : Stt} {e : Int} (hw : walR b = (rs, b.length, e)) (hp : playM rs = some st) : gDo ⟨[⟨none, b, n⟩], []⟩ sR = (⟨[⟨some (gBack 1 0 st), b, b.length⟩], []⟩, 0) := by
  rw [restart_eq]
  unfold gRestart
  simp only
  rw [hw]
  simp only
  rw [hp]
  simp only
  rw [List.take_length]
  rfl
theorem back_step : gDo gC sR = (gD, 0) := by
  obtain ⟨rs, h1, h2, h3, h4⟩ := backB
  have hw := walR_recs h2
  rw [← h1] at hw
  exact back_eq hw h3
theorem up_steps (X : RN) (b : List UInt8) (n : Nat) : gDo ⟨[⟨some X, b, n⟩], []⟩ sR = (⟨[⟨some X, b, n⟩], []⟩, 8) ∧ gDo ⟨[⟨some X, b, n⟩], []⟩ ⟨99, 0, 0, 0, 0, 0, 0, ⟨#[]⟩⟩ = (⟨[⟨some X, b, n⟩], []⟩, 1) ∧ gDo ⟨[⟨some X, b, n⟩], []⟩ ⟨3, 0, 0, 0, 0, 0, 0, ⟨#[]⟩⟩ = (⟨[⟨some X, b, n⟩], []⟩, 6) := ⟨rfl, rfl, rfl⟩
theorem again_step : gDo gD sR = (gD, 8) := (up_steps _ _ _).1
theorem odd_step : gDo gD ⟨99, 0, 0, 0, 0, 0, 0, ⟨#[]⟩⟩ = (gD, 1) := (up_steps _ _ _).2.1
theorem drop_step : gDo gD ⟨3, 0, 0, 0, 0, 0, 0, ⟨#[]⟩⟩ = (gD, 6) := (up_steps _ _ _).2.2
theorem last_D : ((upAt gD 0).map fun X => (X.log.length : Int)).getD 0 = 2 := by
  show ((gBack 1 0 (sttOf (rClean yB))).log.length : Int) = 2
  show (((yB.log.map toE).map toR).length : Int) = 2
  rw [List.length_map, List.length_map, yB_log]; rfl
theorem lead_A : leadF gA 1 = 0 := by kernel_rfl
theorem invD : ∃ g, GInv 1 g 8 gD := inv_of (inv_of invC down_step) back_step
theorem group_Do_nil {h : Heap} {R : Int → Heap → Prop} {s : ST} (hR : ∀ h', Ext h.size h h' → R 1 h') : C_group_Group_Do none (s.kind, s.node, s.i, s.draw, s.keep, s.at_, (s.by_.toNat : Int), s.data, ()) h R := by
  refine A_group_Group_Do ?_
  unfold S_group_Group_Do
  exact allocAt (cs := stS s) (At.start h) fun h' b H => brT (hR h' H.ext)
theorem law10_fixed_ok {hB : Heap} {R : Bool → Heap → Prop} (hR : ∀ h', Ext hB.size hB h' → R true h') : C_law10_fixed hB R := by
  refine A_law10_fixed ?_
  unfold S_law10_fixed
  refine group_New_ok (At.start hB) (fun hb => absurd hb (by decide)) fun k hk _ _ h1 gp H => ?_
  obtain rfl : k = 1 := by omega
  have do_ : ∀ {h : Heap} {G : GS} {S : Nat} {s : ST} {G' : GS} {c : Int} {K : Int → Heap → Prop}, GroupH hB h gp G [] [] → (∃ g, GInv 1 g S G) → S ≤ 1000000 → gDo G s = (G', c) → (∀ h', GroupH hB h' gp G' [] [] → K c h') → C_group_Group_Do (some ⟨gp, 0, none⟩) (s.kind, s.node, s.i, s.draw, s.keep, s.at_, (s.by_.toNat : Int), s.data, ()) h K := fun {h G S s G' c K} H hI hS e hK => by
    obtain ⟨g, I⟩ := hI
    refine group_Do_ok (s := s) H I hS fun h' H => ?_
    rw [e] at H ⊢
    exact hK h' H
  refine loop1 (s1 := .one (.int .i64)) (fun (y : Int) h2 => (0 ≤ y ∧ y ≤ 3 ∧ GroupH hB h2 gp ⟨[⟨some (wN y), [], 0⟩], []⟩ [] [] ∧ ∃ (S : Nat) (g : GH), S ≤ 10 ∧ GInv 1 g S ⟨[⟨some (wN y), [], 0⟩], []⟩) ∨ (y = 4 ∧ GroupH hB h2 gp gA [] [])) (fun (y : Int) _ => (4 - y).toNat)
    (.inl ⟨Int.le_refl _, by decide, H, 0, inv0.elim fun g I => ⟨g, by decide, I⟩⟩) fun _ (y : Int) h2 hI => ?_
  rcases hI with ⟨y0, y3, H, S, g, hS, I⟩ | ⟨rfl, H⟩
  · refine brD (fun _ => ?_) fun hc => absurd (show y < 4 by omega) hc
    rw [w64 (by omega) (by omega)]
    by_cases e3 : y = 3
    · subst e3
      refine do_ (s := sT) H inv3 (by decide) lead_step fun h3 H => ?_
      exact ⟨.inr ⟨by decide, H⟩, by decide⟩
    · have hy : y = 0 ∨ y = 1 ∨ y = 2 := by omega
      refine do_ (s := sT) H ⟨g, I⟩ (by omega) (wait_step y hy) fun h3 H => ?_
      obtain ⟨g', I'⟩ := inv_of ⟨g, I⟩ (wait_step y hy)
      refine ⟨.inl ⟨by omega, by omega, H, ?_⟩, by omega⟩
      rcases hy with rfl | rfl | rfl
      · obtain ⟨g, I⟩ := inv_of inv0 (wait_step 0 (by omega)); exact ⟨1, g, by decide, I⟩
      · obtain ⟨g, I⟩ := inv_of (inv_of inv0 (wait_step 0 (by omega))) (wait_step 1 (by omega)); exact ⟨2, g, by decide, I⟩
      · obtain ⟨g, I⟩ := inv3; exact ⟨3, g, by decide, I⟩
  · refine brN (by decide) ?_
    obtain ⟨gx, IA⟩ := invA
    refine group_Leader_ok H IA ?_
    rw [lead_A]
    refine do_ (s := sP) H invA (by decide) prop_step fun h3 H => ?_
    refine do_ (s := sC) H invB (by decide) crash_step fun h4 H => ?_
    refine do_ (s := sT) H invC (by decide) down_step fun h5 H => ?_
    refine do_ (s := sR) H invC (by decide) back_step fun h6 H => ?_
    refine do_ (s := sR) H invD (by decide) again_step fun h7 H => ?_
    refine brY rfl (brY rfl (brY rfl (brY rfl (brY rfl (brY rfl (brY rfl ?_))))))
    obtain ⟨gd, ID⟩ := invD
    refine H.nodeV ID fun r V => V.last _ ?_
    rw [last_D]
    refine brY rfl ?_
    refine do_ (s := ⟨99, 0, 0, 0, 0, 0, 0, ⟨#[]⟩⟩) H invD (by decide) odd_step fun h8 H => brY rfl ?_
    refine do_ (s := ⟨3, 0, 0, 0, 0, 0, 0, ⟨#[]⟩⟩) H invD (by decide) drop_step fun h9 H => brY rfl ?_
    refine group_New_ok (At.start h9) (fun _ => ?_) fun k hk h1 _ => absurd hk (by omega)
    refine brY rfl (group_Do_nil (s := s0) fun h10 e10 => brY rfl ?_)
    refine A_group_Group_Len ?_
    unfold S_group_Group_Len
    refine brT (brY rfl ?_)
    have H : GroupH hB h10 gp gD [] [] := by
      obtain ⟨L, H, back⟩ := H.un
      exact back h10 [] (H.ext' e10)
    obtain ⟨a, d, dk, dty, ds, O, hgp, A, hn, _, hj, ho, HR, hF, back1, back0⟩ := H.run (i := 0) rfl rfl
    subst hgp
    have HA := HR.ats
    have HL := HA
    unfold othersL at HA
    refine Disk_core HA (fun hb => ?_) fun j st hij hst => ?_
    · have := (List.getElem?_eq_some_iff.1 hj).1
      omega
    · obtain rfl : j = 0 := by omega
      rw [hj] at hst
      injection hst with hst
      subst hst
      unfold headL at HA
      refine disk_Len_ok (d := dk) (ty := dty) (s := ds) (b := bB) (n := bB.length) (HA.mv 5 2) ?_
      obtain ⟨rs, _, _, _, h4⟩ := backB
      rw [decide_eq_true (by omega)]
      exact hR h10 HL.ext
end Go.Proofs.YtniojdaddolnfaaGreat

/-
  Layer 10 (group): the laws GroupKeeps and GroupMatches over the heap alone; their arguments.
-/
namespace Go.Proofs.YtniojdaddolnfaaGreat
open Go

section
open Go.ChangeShapes Go.WideShapes
variable {H : Type} {enc : TypeId × Value → H} {w : World} {b0 : Nat} {v : Value} {d : DataW H} {ps : List MemPlace}
set_option maxRecDepth 100000 in
theorem els_step : ElS enc Tryz.prog w 30 fun cs => ∃ a : ST, cs = stS a ∧ True := by
  refine els_st Tryz.underlying30 fun cs hl hf => ?_
  have hl3 : cs.length = 8 := hl.trans (by kernel_rfl)
  match cs, hl3 with
  | [c0, c1, c2, c3, c4, c5, c6, c7], _ =>
    obtain ⟨_, _, h0, _⟩ := hf 0 _ rfl
    obtain ⟨_, _, h1, _⟩ := hf 1 _ rfl
    obtain ⟨_, _, h2, _⟩ := hf 2 _ rfl
    obtain ⟨_, _, h3, _⟩ := hf 3 _ rfl
    obtain ⟨_, _, h4, _⟩ := hf 4 _ rfl
    obtain ⟨_, _, h5, _⟩ := hf 5 _ rfl
    obtain ⟨_, _, h6, _⟩ := hf 6 _ rfl
    obtain ⟨_, x7, h7, f7⟩ := hf 7 _ rfl
    obtain ⟨n0, e0, _⟩ := el_int Tryz.underlying3 _ _ _ h0
    obtain ⟨n1, e1, _⟩ := el_int Tryz.underlying3 _ _ _ h1
    obtain ⟨n2, e2, _⟩ := el_int Tryz.underlying3 _ _ _ h2
    obtain ⟨n3, e3, _⟩ := el_int Tryz.underlying3 _ _ _ h3
    obtain ⟨n4, e4, _⟩ := el_int Tryz.underlying3 _ _ _ h4
    obtain ⟨n5, e5, _⟩ := el_int Tryz.underlying3 _ _ _ h5
    obtain ⟨n6, e6, w6⟩ := el_int Tryz.underlying5 _ _ _ h6
    obtain ⟨s7, e7, _⟩ := els_str Tryz.underlying9 _ _ _ h7 f7
    obtain ⟨b6, hb6⟩ : ∃ b : UInt8, n6 = (b.toNat : Int) := by
      have := wf_u8 w6
      exact ⟨UInt8.ofNat n6.toNat, by rw [UInt8.toNat_ofNat']; omega⟩
    subst hb6
    have e0' : [c0] = [Value.int .i64 n0] := e0
    have e1' : [c1] = [Value.int .i64 n1] := e1
    have e2' : [c2] = [Value.int .i64 n2] := e2
    have e3' : [c3] = [Value.int .i64 n3] := e3
    have e4' : [c4] = [Value.int .i64 n4] := e4
    have e5' : [c5] = [Value.int .i64 n5] := e5
    have e6' : [c6] = [Value.int .u8 (b6.toNat : Int)] := e6
    have e7' : [c7] = [Value.string s7] := e7
    simp only [List.cons.injEq, and_true] at e0' e1' e2' e3' e4' e5' e6' e7'
    subst e0' e1' e2' e3' e4' e5' e6' e7'
    exact ⟨⟨n0, n1, n2, n3, n4, n5, b6, s7⟩, rfl, trivial⟩
set_option maxRecDepth 100000 in
theorem args_steps (hval : Value.okWide Tryz.prog w .any b0 22 v) (hd : DataW.Trod enc Tryz.prog w 0 (fun _ => true) true 22 v d ps) (hf : Fits Tryz.prog 22 d) :
    ∃ (s : Sl) (xs : List ST), v = s.v ∧ (RdS w.heap 8 s (eSTP.fl xs) ∧ xs.length ≤ 140737488351232) := by
  obtain ⟨s, css, h1, _, h3, h4, _, hcc⟩ := args_sl (sz := 8) Tryz.underlying22 (by kernel_rfl) (by decide) (of_decide_eq_true (by kernel_rfl)) els_step hval hd hf
  obtain ⟨xs, h6, _, _⟩ := cells_of eSTP.cells _ fun c hc => (h3 c hc).2
  rw [h6] at h4
  have hn := rdn h4.rd
  have hc := h4.le
  exact ⟨s, xs, h1, h4.rd, by omega⟩
end
/-! ## How each law begins -/
section
variable {hB h : Heap} {F : List Res} {gp k S : Nat} {g : GH} {G : GS} {q : GN} {X : RN} {s : ST} {n : Int} {l : Sl} {xs : List ST}
theorem law_open {m : Int} {R : Bool → Heap → Prop} {body : Int → Option Addr → Heap → Prop} (hm : 1 ≤ m ∧ m ≤ 7) (w0 : 0 ≤ n ∧ n ≤ 255) (A : RdS hB 8 l (eSTP.fl xs)) (hl : xs.length ≤ 140737488351232) (hR : ∀ h', Ext hB.size hB h' → R true h')
    (hb : fewP xs → ∀ k : Nat, 1 ≤ k → k ≤ 7 → ∀ h' gp, GroupH hB h' gp (gNew k) [] [] → body k (some ⟨gp, 0, none⟩) h') :
    C_law10_fixed hB fun (r : Bool) h_ => (bif !r then R false h_ else C_law10_few l h_ fun (r1 : Bool) h_1 => (bif !r1 then R true h_1 else Nz m (Let (IntKind.i64.wrap (1 + (IntKind.i64.wrap (divV .rem .u8 n m))) : Int) fun k => C_group_New k h_1 fun (r2 : Option Addr) h_2 => body k r2 h_2))) := by
  refine law10_fixed_ok fun h1 e1 => brN rfl ?_
  refine law10_few_ok (A.ext' e1) (by omega) fun h2 e2 => ?_
  have E2 : Ext hB.size hB h2 := e1.trans (e2.mono e1.1)
  refine brNot (fun _ => hR h2 E2) fun hf => nz (by omega) (let_ ?_)
  have hf := of_decide_eq_true hf
  have hr0 := Int.emod_nonneg n (show m ≠ 0 by omega)
  have hr1 := Int.emod_lt_of_pos n (show 0 < m by omega)
  rw [rem_nonneg w0.1, w64 (n := n % m) (by omega) (by omega), w64 (n := 1 + n % m) (by omega) (by omega)]
  refine group_New_ok (At.of_ext E2) (fun hbad => absurd hbad (by omega)) fun k hk h1k h7k h3 gp H => ?_
  rw [hk]
  exact hb hf k h1k h7k h3 gp H
theorem GroupH.ext {hold : List (Sl × List RE)} (H : GroupH hB h gp G hold F) : Ext hB.size hB h := by
  obtain ⟨a, ss, h1, h2, h3, h4, A, h5, h6, H⟩ := H
  exact H.ext
theorem GroupH.ext' {hold : List (Sl × List RE)} {h' : Heap} (H : GroupH hB h gp G hold F) (e : Ext h.size h h') : GroupH hB h' gp G hold F := by
  obtain ⟨a, ss, h1, h2, h3, h4, A, h5, h6, H⟩ := H
  exact ⟨a, ss, h1, h2, h3, h4, A, h5, h6, H.ext' e⟩
theorem gs_same {i : Nat} (hq : G.l[i]? = some q) : (⟨G.l.set i q, G.net⟩ : GS) = G := by
  have e : G.l.set i q = G.l := by
    refine List.ext_getElem? fun j => ?_
    by_cases h : i = j
    · subst h
      rw [List.getElem?_set_self (List.getElem?_eq_some_iff.1 hq).1, hq]
    · rw [List.getElem?_set_ne h]
  rw [e]
theorem gs_up {i : Nat} (hq : G.l[i]? = some q) (hX : q.node = some X) : (⟨G.l.set i ⟨some X, q.b, q.n⟩, G.net⟩ : GS) = G := by
  have e : (⟨some X, q.b, q.n⟩ : GN) = q := by rw [← hX]
  rw [e]; exact gs_same hq
theorem seat_of {i : Nat} (I : GInv k g S G) (hi : i < k) : ∃ q, G.l[i]? = some q := ⟨_, List.getElem?_eq_getElem (by rw [I.len]; exact hi)⟩
/-! ## What a node has synced its disk tells -/
theorem up_disk {i : Nat} (u : UpI k g i S q X) : walR q.b = (((walR q.b).1), q.b.length, 0) ∧ playM (walR q.b).1 = some (sttOf X) := by
  obtain ⟨rs, h1, h2, h3⟩ := u.dk
  have hw := walR_recs h1
  rw [← h2] at hw
  rw [hw]
  refine ⟨rfl, ?_⟩
  unfold playM
  rw [h3]
  simp only
  have z := u.bn.sz
  have hr : rightM (sttOf X) = true := (rts_of z u.ni.d ⟨z.t0, z.t1⟩ ⟨z.v0, z.v1⟩ z.n z.d).right
  rw [if_pos hr]
theorem law10_GroupKeeps_ok (w0 : 0 ≤ n ∧ n ≤ 255) (w1 : RdS hB 8 l (eSTP.fl xs) ∧ xs.length ≤ 140737488351232) : C_law10_GroupKeeps n l hB fun r h' => r = true ∧ Ext hB.size hB h' := by
  refine A_law10_GroupKeeps ?_
  unfold S_law10_GroupKeeps
  obtain ⟨A, hxl⟩ := w1
  have hn := rdn A
  refine law_open (m := 5) (R := fun r h' => r = true ∧ Ext hB.size hB h') (by decide) w0 A hxl (fun h' e => ⟨rfl, e⟩) fun hfew k h1k h7k h1 gp H => ?_
  have hx4 := hfew.2
  refine loop1 (s1 := .one (.int .i64)) (fun (y : Int) h2 => ∃ (j : Nat) (G : GS) (g : GH), y = j ∧ j ≤ xs.length ∧ GInv k g j G ∧ GroupH hB h2 gp G [] []) (fun (y : Int) _ => (xs.length - y).toNat)
    ⟨0, _, _, rfl, Nat.zero_le _, gNew_inv h1k h7k, H⟩ fun _ (y : Int) h2 hI => ?_
  clear H
  obtain ⟨j, G, g, rfl, hj, I, H⟩ := hI
  refine brD (fun hc => ?_) fun hc => ⟨rfl, H.ext⟩
  have hj2 : j < xs.length := by omega
  have A1 := H.arg A
  refine ixR A1 j rfl hj2 fun e he => ld8E A1 he hj2 ?_
  refine H.alloc (cs := stS s0) fun h3 b H => ?_
  refine H.st8 (s := xs[j]) fun h4 H => H.ld8 (s := xs[j]) ?_
  refine group_Do_ok (s := xs[j]) H.tail I (by omega) fun h5 H => ?_
  obtain ⟨g', _, I'⟩ := gDo_inv I xs[j]
  generalize (gDo G xs[j]).1 = G' at H I'
  clear I
  refine loop1 (s1 := .one (.int .i64)) (fun (y : Int) h6 => ∃ i : Nat, y = i ∧ i ≤ k ∧ GroupH hB h6 gp G' [] []) (fun (y : Int) _ => (k - y).toNat)
    ⟨0, rfl, Nat.zero_le _, H⟩ fun _ (y : Int) h6 hI => ?_
  clear H
  obtain ⟨i, rfl, hi, H⟩ := hI
  refine brD (fun hc2 => ?_) fun hc2 => ?_
  · have hik : i < k := by omega
    obtain ⟨q, hq⟩ := seat_of I' hik
    rw [w64 (n := (i : Int) + 1) (by omega) (by omega)]
    cases hX : q.node with
    | none =>
      have H0 := H
      obtain ⟨a, ss, rfl, e2, e3, e4, A2, e5, e6, HA⟩ := H
      refine Node_core HA (fun hb => ?_) fun j st hij hst => Disk_core HA (fun hb => ?_) fun j2 st2 hij2 hst2 => ?_
      · have := I'.len
        rw [e3, List.length_map] at this
        rw [e2, List.length_map] at hb
        omega
      · have := I'.len
        rw [e3, List.length_map] at this
        rw [e2, List.length_map] at hb
        omega
      · obtain rfl : j = i := by omega
        have hnone : (pOf st.2).isNone = true := by
          rw [e2, List.getElem?_map] at hst
          obtain ⟨x, hx, rfl⟩ := Option.map_eq_some_iff.1 hst
          rw [e3, List.getElem?_map, hx] at hq
          injection hq with hq
          rw [← hq] at hX
          have hX : x.nd.map (·.X) = none := hX
          have := Option.map_eq_none_iff.1 hX
          show (pOf (x.nd.map (·.d))).isNone = true
          rw [this]; rfl
        exact brY hnone ⟨⟨j + 1, by omega, by omega, H0⟩, by omega⟩
    | some X =>
      have u := (I'.seat i q hq).up X hX
      have hlen := (I'.seat i q hq).len
      obtain ⟨hw, hp⟩ := up_disk u
      obtain ⟨a, d, dk, dty, ds, O, hgp, A2, hnet, _, hja, ho, HR, hF, back1, back0⟩ := H.run hq hX
      subst hgp
      have HA := HR.ats
      unfold othersL at HA
      have hst : a.sts[i]? = some (dk, some d) := hja
      have hil := (List.getElem?_eq_some_iff.1 hst).1
      refine Node_core HA (fun hb => absurd hb (by omega)) fun j1 st1 hij1 hst1 => Disk_core HA (fun hb => absurd hb (by omega)) fun j2 st2 hij2 hst2 => ?_
      obtain rfl : j1 = i := by omega
      obtain rfl : j2 = j1 := by omega
      rw [hst] at hst1 hst2
      injection hst1 with hst1
      injection hst2 with hst2
      subst hst1 hst2
      refine brF ?_
      unfold headL at HA
      refine disk_Synced_ok (d := dk) (ty := dty) (s := ds) (b := q.b) (n := q.n) (HA.mv 5 2) ?_
      refine disk_Len_ok (d := dk) (ty := dty) (s := ds) (b := q.b) (n := q.n) (HA.mv 5 2) ?_
      rw [u.n]
      refine brN (by rw [bne_self_eq_false]) ?_
      obtain ⟨L, H, back⟩ := HR.aside
      unfold othersL headL at H
      refine hard_Recover_ok2 (d := dk) (ty := dty) (sd := ds) (b := q.b) (n := q.n) (H.mv 5 2) hlen (by rw [u.n, hw]; exact Nat.le_refl _) fun tg vg sg eg code h7 hcode hat => ?_
      obtain ⟨ds', H⟩ := hat
      have hst : sttOf X = ⟨tg, vg, eg⟩ ∧ code = 0 := by
        rcases hcode with ⟨x, _⟩ | ⟨x, y⟩
        · rw [hp] at x; cases x
        · rw [hp] at x; injection x with x; exact ⟨x, y⟩
      obtain ⟨hst, rfl⟩ := hst
      injection hst with hT hv he2
      subst hT hv he2
      rw [hw] at H
      simp only [List.take_length] at H
      have HR : RaftAt hB h7 d X (.own sg 2 (eEN.fl (X.log.map toE)) :: othersL a dk dty ds' q.b q.b.length O) := back h7 _ ((H.mv 3 5).mv 5 1)
      refine HR.alloc (cs := [.int .i64 0, .int .i64 0, .slice none 0 0]) fun h8 p HR => ?_
      obtain ⟨L, H, back⟩ := HR.aside
      refine stAt0 H 0 rfl rfl fun h9 H => stAt (j := 1) H 0 rfl rfl fun h9 H => stAt (j := 2) H 0 rfl rfl fun h9 H => brN rfl ?_
      have HR : RaftAt hB h9 d X (.blk p 46 [.int .i64 X.term, .int .i64 X.vote, .slice sg.a sg.n sg.c] :: .own sg 2 (eEN.fl (X.log.map toE)) :: othersL a dk dty ds' q.b q.b.length O) := back h9 _ H
      refine ldM0 HR X.term rfl (ldM (j := 1) HR X.vote rfl (ldM (j := 2) HR sg rfl ?_))
      refine raft_State_ok HR (by have := u.bn.l; omega) fun r h10 HR => ?_
      have HA := HR.ats
      refine ⟨ldAt0 HA 1 rfl X.term rfl (ldAt (j := 1) HA 1 rfl X.vote rfl (ldAt (j := 2) HA 1 rfl sg rfl rfl)), ?_⟩
      refine ref06_Same_ok (e1 := X.log.map toE) (e2 := X.log.map toE) (HA.rdo 2 rfl) (by rw [← fl_toE]; exact HA.rdo 0 rfl) (by rw [List.length_map]; have := u.bn.l; omega) fun w h11 e11 hwq => ?_
      refine brNot (fun hwf => ?_) fun _ => ?_
      · rw [hwq.2 rfl] at hwf; cases hwf
      · refine ⟨⟨j2 + 1, by omega, by omega, ?_⟩, by omega⟩
        obtain ⟨L, H, back⟩ := HR.aside
        have HR := back h11 _ (H.ext' e11)
        have := back1 h11 a ds' X q.b q.b.length rfl rfl A2 ho HR.tail.tail.tail
        rw [← hnet, ← u.n, gs_up hq hX] at this
        exact this
  · have hik : i = k := by omega
    rw [w64 (by omega) (by omega)]
    exact ⟨⟨j + 1, G', g', by omega, by omega, I', H⟩, by omega⟩
/-! ## Logs that match -/
theorem GroupH.runE {i : Nat} (H : GroupH hB h gp G [] F) (hq : G.l[i]? = some q) (hX : q.node = some X) :
    ∃ (a : GA) (d dk : Nat) (dty : TypeId) (ds : Sl) (O : List Res), a.gp = gp ∧ a.sts[i]? = some (dk, some d) ∧ RaftAt hB h d X (othersL a dk dty ds q.b q.n O) ∧ (∀ E h', RaftAt hB h' d X (E ++ othersL a dk dty ds q.b q.n O) → GroupH hB h' gp G [] (E ++ F)) := by
  obtain ⟨a, ss, h1, h2, h3, h4, A, h5, h6, H⟩ := H
  have hq0 := hq
  rw [h3, List.getElem?_map] at hq
  obtain ⟨s, hs, rfl⟩ := Option.map_eq_some_iff.1 hq
  have hX0 := hX
  have hX : s.nd.map (·.X) = some X := hX
  obtain ⟨x, hx, rfl⟩ := Option.map_eq_some_iff.1 hX
  have ho := h5 s (List.mem_of_getElem? hs) x hx
  refine ⟨a, x.d, s.dk, s.dty, s.ds, (ss.eraseIdx i).flatMap seatR ++ F, h1, ?_, H.node hs hx ho, fun E h' H' => ?_⟩
  · rw [h2, List.getElem?_map, hs]
    show some (stE s) = _
    unfold stE; rw [hx]; rfl
  · have p : (E ++ othersL a s.dk s.dty s.ds s.b s.n ((ss.eraseIdx i).flatMap seatR ++ F)).Perm (othersL a s.dk s.dty s.ds s.b s.n ((ss.eraseIdx i).flatMap seatR ++ (E ++ F))) := by
      unfold othersL
      have : ∀ P : List Res, (E ++ (P ++ F)).Perm (P ++ (E ++ F)) := fun P => by
        rw [← List.append_assoc, ← List.append_assoc]
        exact List.Perm.append_right _ List.perm_append_comm
      have := this (headL a ++ diskL s.dk s.dty s.ds s.b s.n ++ (ss.eraseIdx i).flatMap seatR)
      simp only [List.append_assoc] at this
      exact this
    obtain ⟨s', g1, g2, g3, H'⟩ := (H'.perm p).unnode hs ho
    refine ⟨a, ss.set i s', h1, ?_, ?_, h4, A, all_set h5 g3, h6, H'⟩
    · rw [h2, map_set_same hs]
      rw [g2]; unfold stE; rw [hx]; rfl
    · have e := congrArg GS.l (gs_up hq0 hX0)
      have e : G.l.set i ⟨some x.X, s.b, s.n⟩ = G.l := e
      rw [← e, h3, List.map_set, g1]
def logAt (G : GS) (i : Int) : List RE := ((upAt G i).map (·.log)).getD []
theorem GroupH.state {i : Int} {K : KL [.int .i64, .int .i64, .sl] → Heap → Prop} (H : GroupH hB h gp G [] F) (I : GInv k g S G) (hK : ∀ T vt sl h', GroupH hB h' gp G [] (.own sl 2 (eRE.fl (logAt G i)) :: F) → K (T, vt, sl, ()) h') :
    C_group_Group_Node (some ⟨gp, 0, none⟩) i h fun (r : Option Addr) h1 => C_raft_Node_State r h1 K := by
  have nilc : logAt G i = [] → ∀ {h : Heap}, GroupH hB h gp G [] F → C_raft_Node_State none h K := fun he {h} H => by
    refine A_raft_Node_State ?_
    unfold S_raft_Node_State
    refine H.alloc (cs := [.int .i64 0, .int .i64 0, .slice none 0 0]) fun h1 b H => brT ?_
    obtain ⟨L, H, back⟩ := H.un
    refine stAt0 H 0 rfl rfl fun h2 H => stAt (j := 1) H 0 rfl rfl fun h3 H => stAt (j := 2) H 0 rfl rfl fun h4 H => ?_
    refine ldAt0 H 0 rfl (0 : Int) rfl (ldAt (j := 1) H 0 rfl (0 : Int) rfl (ldAt (j := 2) H 0 rfl (⟨none, 0, 0⟩ : Sl) rfl ?_))
    refine hK 0 0 ⟨none, 0, 0⟩ h4 ?_
    rw [he]
    exact back h4 _ (H.tail.nil 2)
  by_cases hi : 0 ≤ i ∧ i < k
  · obtain ⟨j, rfl⟩ : ∃ j : Nat, i = j := ⟨i.toNat, by omega⟩
    obtain ⟨q, hq⟩ := seat_of I (show j < k by omega)
    cases hX : q.node with
    | none =>
      have hun : upAt G (j : Int) = none := by rw [upAt_nat, hq]; exact hX
      refine H.node fun x hx => ?_
      rw [hun] at hx
      have : x = none := Option.isNone_iff_eq_none.1 hx
      subst this
      exact nilc (by unfold logAt; rw [hun]; rfl) H
    | some X =>
      have hun : upAt G (j : Int) = some X := by rw [upAt_nat, hq]; exact hX
      have u := (I.seat j q hq).up X hX
      obtain ⟨a, d, dk, dty, ds, O, hgp, hja, HR, back⟩ := H.runE hq hX
      subst hgp
      have HA := HR.ats
      unfold othersL at HA
      have hil := (List.getElem?_eq_some_iff.1 hja).1
      refine Node_core HA (fun hb => absurd hb (by omega)) fun j1 st1 hij1 hst1 => ?_
      obtain rfl : j1 = j := by omega
      rw [hja] at hst1
      injection hst1 with hst1
      subst hst1
      refine raft_State_ok HR (by have := u.bn.l; omega) fun r h10 HR2 => hK _ _ _ _ ?_
      have e : logAt G (j1 : Int) = X.log := by unfold logAt; rw [hun]; rfl
      rw [e]
      exact back [_] h10 HR2
  · have hun : upAt G i = none := by
      unfold upAt
      split
      · rfl
      · rw [List.getElem?_eq_none (by rw [I.len]; omega)]; rfl
    refine H.node fun x hx => ?_
    rw [hun] at hx
    have : x = none := Option.isNone_iff_eq_none.1 hx
    subst this
    exact nilc (by unfold logAt; rw [hun]; rfl) H
theorem ba_strB (d : ByteArray) : strB d.data.toList = d := by cases d; rfl
theorem re_eq (a c : RE) : eqL (eRE.cells a) (eRE.cells c) = true ↔ a = c := by
  cases a with | mk t d =>
  cases c with | mk t' d' =>
  simp only [eRE, eqL, eqB, Bool.and_true, Bool.and_eq_true, beq_iff_eq, RE.mk.injEq]
  refine and_congr_right fun _ => ⟨fun h => ?_, fun h => by rw [h]⟩
  rw [← ba_strB d, ← ba_strB d', strB_toList, strB_toList] at h
  rw [← ba_strB d, ← ba_strB d', h]
theorem lm_at (I : GInv k g S G) (i : Int) : LM g (logAt G i) := by
  unfold logAt upAt
  split
  · exact fun j hj => by simp at hj
  · cases hq : G.l[i.toNat]? with
    | none => exact fun j hj => by simp at hj
    | some q =>
      rw [Option.bind_some]
      cases hX : q.node with
      | none => exact fun j hj => by simp at hj
      | some X => exact ((I.seat _ q hq).up X hX).ni.d.lm
theorem law10_GroupMatches_ok (w0 : 0 ≤ n ∧ n ≤ 255) (w1 : RdS hB 8 l (eSTP.fl xs) ∧ xs.length ≤ 140737488351232) : C_law10_GroupMatches n l hB fun r h' => r = true ∧ Ext hB.size hB h' := by
  refine A_law10_GroupMatches ?_
  unfold S_law10_GroupMatches
  obtain ⟨A, hxl⟩ := w1
  refine law_open (m := 7) (R := fun r h' => r = true ∧ Ext hB.size hB h') (by decide) w0 A hxl (fun h' e => ⟨rfl, e⟩) fun hfew k h1k h7k h1 gp H => ?_
  have hx4 := hfew.2
  refine group_Run_ok H A (gNew_inv h1k h7k) (by omega) fun h2 H => ?_
  obtain ⟨g, _, I⟩ := gRun_inv xs (gNew_inv h1k h7k)
  generalize gRun (gNew k) xs = G at H I
  refine loop1 (s1 := .one (.int .i64)) (fun (y : Int) h3 => ∃ i : Nat, y = i ∧ i ≤ k ∧ GroupH hB h3 gp G [] []) (fun (y : Int) _ => (k - y).toNat)
    ⟨0, rfl, Nat.zero_le _, H⟩ fun _ (y : Int) h3 hI => ?_
  clear H
  obtain ⟨i, rfl, hi, H⟩ := hI
  refine brD (fun hc => ?_) fun hc => ⟨rfl, H.ext⟩
  refine loop1 (s1 := .one (.int .i64)) (fun (y : Int) h4 => ∃ j : Nat, y = j ∧ j ≤ i ∧ GroupH hB h4 gp G [] []) (fun (y : Int) _ => (i - y).toNat)
    ⟨0, rfl, Nat.zero_le _, H⟩ fun _ (y : Int) h4 hI => ?_
  clear H
  obtain ⟨j, rfl, hj, H⟩ := hI
  refine brD (fun hc2 => ?_) fun hc2 => ?_
  · refine H.state I fun T1 v1 a h5 H => ?_
    refine H.state I fun T2 v2 b h6 H => ?_
    have la := lm_at I (i : Int)
    have lb := lm_at I (j : Int)
    have hla : (logAt G (i : Int)).length ≤ 1024 := by
      unfold logAt upAt
      split
      · exact Nat.zero_le _
      · cases hq : G.l[((i : Int)).toNat]? with
        | none => exact Nat.zero_le _
        | some q =>
          rw [Option.bind_some]
          cases hX : q.node with
          | none => exact Nat.zero_le _
          | some X => exact ((I.seat _ q hq).up X hX).bn.l
    generalize logAt G (i : Int) = xa at H la hla
    generalize logAt G (j : Int) = xb at H lb
    obtain ⟨L, HA, back⟩ := H.un
    have hna := HA.n (E := eRE) 1 rfl
    have hnb := HA.n (E := eRE) 0 rfl
    rw [w64 (n := (j : Int) + 1) (by omega) (by omega), w64 (n := (if (b.n : Int) < a.n then (b.n : Int) else a.n) - 1) (by split <;> omega) (by split <;> omega)]
    refine let_ ?_
    refine loop2 (s1 := .one .bool) (s2 := .one (.int .i64)) (fun (q : Bool) (y : Int) h7 => -1 ≤ y ∧ y < xa.length ∧ y < xb.length ∧ h7 = h6 ∧ (q = true → ∀ z : Nat, (z : Int) ≤ y → xa[z]? = xb[z]?)) (fun _ (y : Int) _ => (y + 1).toNat)
      ⟨by split <;> omega, by split <;> omega, by split <;> omega, rfl, fun x => by cases x⟩ fun _ (q : Bool) (y : Int) h7 hI => ?_
    obtain ⟨y1, y2, y3, rfl, hal⟩ := hI
    refine brD (fun hc3 => ?_) fun hc3 => ?_
    · obtain ⟨x, rfl⟩ : ∃ x : Nat, y = x := ⟨y.toNat, by omega⟩
      have hxa : x < xa.length := by omega
      have hxb : x < xb.length := by omega
      rw [w64 (n := (x : Int) - 1) (by omega) (by omega)]
      refine join1 (s1 := .one .bool) (fun (w : Bool) h8 => w = false ∧ h8 = h7) (fun _ (w : Bool) h8 hJ => ?_) ?_
      · obtain ⟨rfl, rfl⟩ := hJ
        refine brN rfl (brB (fun hq => let_ ⟨⟨by omega, by omega, by omega, rfl, fun _ z hz => hal hq z (by omega)⟩, by omega⟩) fun hq => ?_)
        refine ixAt HA 1 rfl x rfl hxa fun e1 he1 => ldEl0 (E := eRE) HA 1 rfl he1 hxa xa[x].term rfl ?_
        refine ixAt HA 0 rfl x rfl hxb fun e2 he2 => ldEl0 (E := eRE) HA 0 rfl he2 hxb xb[x].term rfl (let_ (let_ ?_))
        refine ⟨⟨by omega, by omega, by omega, rfl, fun ht z hz => ?_⟩, by omega⟩
        have ht := eq_of_beq ht
        have := take_eq_of_term la lb (List.getElem?_eq_getElem hxa) (List.getElem?_eq_getElem hxb) ht
        exact get_of_take this (by omega)
      · refine brB (fun hq => ?_) fun hq => ⟨rfl, rfl⟩
        have hxx := hal hq x (Int.le_refl _)
        rw [List.getElem?_eq_getElem hxa, List.getElem?_eq_getElem hxb] at hxx
        injection hxx with hxx
        refine ixAt HA 1 rfl x rfl hxa fun e1 he1 => ldEl0 (E := eRE) HA 1 rfl he1 hxa xa[x].term rfl (ldEl (E := eRE) (j := 1) HA 1 rfl he1 hxa xa[x].data rfl ?_)
        refine ixAt HA 0 rfl x rfl hxb fun e2 he2 => ldEl0 (E := eRE) HA 0 rfl he2 hxb xb[x].term rfl (ldEl (E := eRE) (j := 1) HA 0 rfl he2 hxb xb[x].data rfl ?_)
        refine opNeq (us := eRE.cells xa[x]) (vs := eRE.cells xb[x]) (by kernel_rfl) ⟨?_, rfl⟩
        rw [(re_eq _ _).2 hxx]; rfl
    · exact ⟨⟨j + 1, by omega, by omega, H.tail.tail⟩, by omega⟩
  · rw [w64 (by omega) (by omega)]
    exact ⟨⟨i + 1, by omega, by omega, H⟩, by omega⟩
end
end Go.Proofs.YtniojdaddolnfaaGreat

/-
  Layer 10 (group): maps of any elements; the laws GroupSafe and GroupLater over the heap alone.
-/
namespace Go.Proofs.YtniojdaddolnfaaGreat
open Go
open Go.Maps

/-! ## Maps of any elements -/
def in64 (x : Int) : Prop := -9223372036854775808 ≤ x ∧ x ≤ 9223372036854775807
theorem wf64 {c : Int} (h1 : -9223372036854775808 ≤ c) (h2 : c ≤ 9223372036854775807) : (Lit.int .i64 c).wf = true := by
  simp [Lit.wf, IntKind.min, IntKind.max, IntKind.bits, IntKind.signed]; omega
theorem zv_run {P : Program} {e : TypeId} {z : Value} (h : (P.info? e).bind (·.zero) = some z) (w : World) : (zeroValue e).run P w = .ok z w := by
  cases hi : P.info? e with
  | none => rw [hi] at h; cases h
  | some i =>
    rw [hi] at h
    have hz : i.zero = some z := h
    simp [zeroValue, typeInfo, program, Sem.run, hi, hz]
def heldE (v : Value) : Option (DataW Value × List MemPlace) := some (.held v, [])
/-- A map's type whose keys are numbers. -/
structure MapV (P : Program) (t k e : TypeId) (z : Value) : Prop where
  ht : P.underlying t = some (.map k e)
  K : Keyed P k
  hk : P.underlying k = some (.int .i64)
  hz : ∀ w, (zeroValue e).run P w = .ok z w
section
variable {P : Program} {t k e : TypeId} {z : Value}
def MapE (P : Program) (k : TypeId) (h : Heap) (b n : Nat) (f : Int → Option Value) : Prop :=
  ∃ D : DataW Value, (mkW h).ownsMap P k heldE b n D ∧ ∀ x l, keyOf P k (.int .i64 x) = some l → (f x = none → has D l = false) ∧ ∀ c, f x = some c → has D l = true ∧ ∀ y, D.atKey l y = .held c
theorem MapE.keep {h h' : Heap} {b n : Nat} {f : Int → Option Value} (hm : MapE P k h b n f) (hk : h'[b]? = h[b]?) : MapE P k h' b n f := by
  obtain ⟨D, ⟨es, clock, hb, r⟩, hv⟩ := hm
  exact ⟨D, ⟨es, clock, hk.trans hb, r⟩, hv⟩
theorem MapE.lt {h : Heap} {b n : Nat} {f : Int → Option Value} (hm : MapE P k h b n f) : b < h.size := by
  obtain ⟨D, ho, _⟩ := hm
  exact World.ownsMap.lt ho
def mapE (P : Program) (k : TypeId) (b n : Nat) (f : Int → Option Value) : Res :=
  .any (fun g => g = b) (fun h => MapE P k h b n f) (fun h h' _ hk hm => hm.keep (hk b rfl hm.lt)) (fun h hm g hg => by rw [hg]; exact hm.lt)
def updV (f : Int → Option Value) (x : Int) (c : Value) : Int → Option Value := fun y => if y = x then some c else f y
theorem owns_wE {w : World} {h : Heap} (hw : w.heap = h) {R : Value → Option (DataW Value × List MemPlace)} {b n : Nat} {D : DataW Value} (ho : (mkW h).ownsMap P k R b n D) : w.ownsMap P k R b n D := by
  obtain ⟨es, clock, hb, r⟩ := ho
  exact ⟨es, clock, by rw [hw]; exact hb, r⟩
theorem owns_hE {w : World} {R : Value → Option (DataW Value × List MemPlace)} {b n : Nat} {D : DataW Value} (ho : w.ownsMap P k R b n D) : (mkW w.heap).ownsMap P k R b n D := ho
variable {h0 h : Heap} {L : List Res}
theorem mkMapE {K : Option Nat → Heap → Prop} (H : At h0 h L) (hK : ∀ h' b, At h0 h' (mapE P k b 0 (fun _ => none) :: L) → K (some b) h') : OpT P (Instr.makeMap t none) h [.one .map] K := by
  intro w hw
  refine ⟨.map (some w.heap.size), w.alloc (.map #[] 0), rfl, ⟨rfl, rfl, rfl⟩, (some w.heap.size, ()), rfl, ?_⟩
  show K (some w.heap.size) (w.heap.push (.map #[] 0))
  rw [hw]
  refine hK _ h.size (H.new (r := mapE P k h.size 0 fun _ => none) (ext_push h _ (Nat.le_refl _)) ?_ fun g hg => by rw [show g = h.size from hg]; exact Nat.le_refl _)
  refine ⟨.map [], World.ownsMap_made (mkW h) P k _, fun x l hl => ⟨fun _ => rfl, (fun c hc => by cases hc)⟩⟩
/-- 'v, ok := m[k]': what comes back, as a value. -/
theorem look_E (T : MapV P t k e z) {b n : Nat} {f : Int → Option Value} (H : At h0 h L) (i : Nat) (hi : L[i]? = some (mapE P k b n f)) {x : Int} (hx : in64 x) (w : World) (hw : w.heap = h) :
    (Instr.lookup t (.map (some b)) (.int .i64 x) true).run P w = .ok (.tuple #[(f x).getD z, .bool (f x).isSome]) w := by
  obtain ⟨D, ho, hv⟩ : MapE P k h b n f := H.get i hi
  have hl := keyOf_int_mk T.hk (wf64 hx.1 hx.2)
  obtain ⟨h1, h2⟩ := hv x _ hl
  obtain ⟨v, ps, hrun, hv⟩ := World.ownsMap.look_ok (owns_wE hw ho) T.K T.ht (T.hz w) (rfl : heldE z = some (.held z, [])) hl
  rw [hrun]
  have hv : some (DataW.held v, []) = some (_, ps) := hv
  injection hv with hv
  injection hv with hv _
  cases hf : f x with
  | none =>
    rw [atKey_of_not_has (h1 hf)] at hv
    injection hv with hv
    rw [← hv, h1 hf]; rfl
  | some c' =>
    rw [(h2 c' hf).2] at hv
    injection hv with hv
    rw [← hv, (h2 c' hf).1]; rfl
theorem upd_E (T : MapV P t k e z) {b n : Nat} {f : Int → Option Value} {K : Heap → Prop} (H : At h0 h L) (i : Nat) (hi : L[i]? = some (mapE P k b n f)) (hn : n < 4611686018427387904) {x : Int} (hx : in64 x) (c : Value)
    (hK : ∀ h', At h0 h' (L.set i (mapE P k b (n + 1) (updV f x c))) → K h') : OpU P (Instr.mapUpdate t (.map (some b)) (.int .i64 x) c) h K := by
  obtain ⟨D, ho, hv⟩ : MapE P k h b n f := H.get i hi
  have hl := keyOf_int_mk T.hk (wf64 hx.1 hx.2)
  intro w hw
  obtain ⟨w', hrun, ho', hmt⟩ := World.ownsMap.store (owns_wE hw ho) T.K T.ht (by simp only [maxLen]; omega) hl (rfl : heldE c = some (.held c, []))
  obtain ⟨es, clock, es', clock', hb, rfl⟩ := hmt
  refine ⟨_, _, hrun, ⟨rfl, rfl, rfl⟩, ?_⟩
  have hkl := T.K.key hl
  have hmap : IsMap D := World.ownsMap.isMap ho
  refine hK _ (H.turn i hi (r' := mapE P k b (n + 1) (updV f x c)) ⟨?_, fun g hg hne => ?_⟩ ⟨_, owns_hE ho', fun y ly hly => ?_⟩ fun g hg => .inl hg)
  · show h.size ≤ (w.heap.setIfInBounds b _).size
    rw [Array.size_setIfInBounds, hw]; exact Nat.le_refl _
  · show (w.heap.setIfInBounds b _)[g]? = h[g]?
    rw [Array.getElem?_setIfInBounds_ne fun e => hne e.symm, hw]
  · unfold updV
    by_cases hyx : y = x
    · subst hyx
      rw [hl] at hly
      injection hly with hly
      subst hly
      rw [if_pos rfl]
      refine ⟨(fun h => by cases h), fun c' hc' => ?_⟩
      injection hc' with hc'
      subst hc'
      exact ⟨has_put_same hmap hkl _, fun z => atKey_put_same hmap hkl _ z⟩
    · rw [if_neg hyx]
      have hne : ly ≠ _ := fun e => hyx (by have := T.K.inj (e ▸ hly) hl; injection this)
      obtain ⟨h1, h2⟩ := hv y ly hly
      refine ⟨fun h => by rw [has_put_other hne]; exact h1 h, fun c' hc' => ?_⟩
      obtain ⟨h3, h4⟩ := h2 c' hc'
      exact ⟨by rw [has_put_other hne]; exact h3, fun z => by rw [atKey_put_other hne]; exact h4 z⟩
end
theorem mapII : MapV Tryz.prog 27 3 3 (.int .i64 0) := ⟨Tryz.underlying27, int_keyed Tryz.underlying3, Tryz.underlying3, zv_run (by kernel_rfl)⟩
theorem mapIE : MapV Tryz.prog 28 3 40 (.agg #[.int .i64 0, .string ByteArray.empty]) := ⟨Tryz.underlying28, int_keyed Tryz.underlying3, Tryz.underlying3, zv_run (by kernel_rfl)⟩
section
variable {hB h : Heap} {F L : List Res} {gp k S : Nat} {g g' : GH} {G : GS} {q : GN} {X : RN} {s : ST} {n : Int} {l : Sl} {xs : List ST}
theorem lookII {b m : Nat} {f : Int → Option Int} {K : Int → Bool → Prop} (H : At hB h L) (i : Nat) (hi : L[i]? = some (mapE Tryz.prog 3 b m (fun x => (f x).map (Value.int .i64)))) {x : Int} (hx : in64 x) (hK : K ((f x).getD 0) (f x).isSome) :
    OpV Tryz.prog (Instr.lookup 27 (.map (some b)) (.int .i64 x) true) h [.one (.int .i64), .one .bool] K := by
  refine ⟨((f x).getD 0, (f x).isSome, ()), fun w hw => ⟨w, ?_, Env.refl w, hw⟩, hK⟩
  rw [look_E mapII H i hi hx w hw]
  cases f x <;> rfl
def reV (e : RE) : Value := .agg #[.int .i64 e.term, .string e.data]
theorem lookIE {b m : Nat} {f : Int → Option RE} {K : KL [.int .i64, .str] → Bool → Prop} (H : At hB h L) (i : Nat) (hi : L[i]? = some (mapE Tryz.prog 3 b m (fun x => (f x).map reV))) {x : Int} (hx : in64 x) (hK : K ((f x).elim (0, ByteArray.empty, ()) fun e => (e.term, e.data, ())) (f x).isSome) :
    OpV Tryz.prog (Instr.lookup 28 (.map (some b)) (.int .i64 x) true) h [.agg [.int .i64, .str], .one .bool] K := by
  refine ⟨((f x).elim (0, ByteArray.empty, ()) fun e => (e.term, e.data, ()), (f x).isSome, ()), fun w hw => ⟨w, ?_, Env.refl w, hw⟩, hK⟩
  rw [look_E mapIE H i hi hx w hw]
  cases f x <;> rfl
/-! ## A node, its group's other things behind what is beside it -/
theorem GroupH.runF {i : Nat} (H : GroupH hB h gp G [] F) (hq : G.l[i]? = some q) (hX : q.node = some X) :
    ∃ (a : GA) (d dk : Nat) (M : List Res), a.gp = gp ∧ a.sts[i]? = some (dk, some d) ∧ RaftAt hB h d X (F ++ (headL a ++ M)) ∧ (∀ E h', RaftAt hB h' d X (E ++ (headL a ++ M)) → GroupH hB h' gp G [] E) := by
  obtain ⟨a, ss, h1, h2, h3, h4, A, h5, h6, H⟩ := H
  have hq0 := hq
  rw [h3, List.getElem?_map] at hq
  obtain ⟨s, hs, rfl⟩ := Option.map_eq_some_iff.1 hq
  have hX0 := hX
  have hX : s.nd.map (·.X) = some X := hX
  obtain ⟨x, hx, rfl⟩ := Option.map_eq_some_iff.1 hX
  have ho := h5 s (List.mem_of_getElem? hs) x hx
  have p : ∀ E : List Res, (E ++ (headL a ++ (diskL s.dk s.dty s.ds s.b s.n ++ (ss.eraseIdx i).flatMap seatR))).Perm (othersL a s.dk s.dty s.ds s.b s.n ((ss.eraseIdx i).flatMap seatR ++ E)) := fun E => by
    unfold othersL
    rw [← List.append_assoc (diskL s.dk s.dty s.ds s.b s.n), ← List.append_assoc (headL a)]
    exact List.perm_append_comm
  refine ⟨a, x.d, s.dk, diskL s.dk s.dty s.ds s.b s.n ++ (ss.eraseIdx i).flatMap seatR, h1, ?_, (H.node hs hx ho).perm (p F).symm, fun E h' H' => ?_⟩
  · rw [h2, List.getElem?_map, hs]
    show some (stE s) = _
    unfold stE; rw [hx]; rfl
  · obtain ⟨s', g1, g2, g3, H'⟩ := (H'.perm (p E)).unnode hs ho
    refine ⟨a, ss.set i s', h1, ?_, ?_, h4, A, all_set h5 g3, h6, H'⟩
    · rw [h2, map_set_same hs]
      rw [g2]; unfold stE; rw [hx]; rfl
    · have e := congrArg GS.l (gs_up hq0 hX0)
      have e : G.l.set i ⟨some x.X, s.b, s.n⟩ = G.l := e
      rw [← e, h3, List.map_set, g1]
/-- The node that a number names: none, or one ahead of all else. -/
theorem GroupH.nodeR {i : Nat} {R : Option Addr → Heap → Prop} (H : GroupH hB h gp G [] F) (I : GInv k g S G) (hi : i < k) (h1 : upAt G (i : Int) = none → R none h)
    (h2 : ∀ X d M, upAt G (i : Int) = some X → UpI k g i S (⟨some X, (G.l[i]?.map (·.b)).getD [], (G.l[i]?.map (·.n)).getD 0⟩) X → RaftAt hB h d X (F ++ M) → (∀ E h', RaftAt hB h' d X (E ++ M) → GroupH hB h' gp G [] E) → R (some ⟨d, 0, none⟩) h) : C_group_Group_Node (some ⟨gp, 0, none⟩) (i : Int) h R := by
  obtain ⟨q, hq⟩ := seat_of I hi
  cases hX : q.node with
  | none =>
    have hun : upAt G (i : Int) = none := by rw [upAt_nat, hq]; exact hX
    refine H.node fun x hx => ?_
    rw [hun] at hx
    have : x = none := Option.isNone_iff_eq_none.1 hx
    subst this
    exact h1 hun
  | some X =>
    have hun : upAt G (i : Int) = some X := by rw [upAt_nat, hq]; exact hX
    have u := (I.seat i q hq).up X hX
    obtain ⟨a, d, dk, M, hgp, hja, HR, back⟩ := H.runF hq hX
    subst hgp
    have hil := (List.getElem?_eq_some_iff.1 hja).1
    obtain ⟨L, HA, _⟩ := HR.aside
    have HA : At hB h (headL a ++ (F ++ M ++ L)) := by
      refine HA.perm ?_
      have : ∀ A : List Res, ((F ++ (A ++ M)) ++ L).Perm (A ++ (F ++ M ++ L)) := fun A => by
        rw [List.append_assoc, List.append_assoc, ← List.append_assoc F, ← List.append_assoc A, List.append_assoc F]
        rw [← List.append_assoc, ← List.append_assoc]
        refine List.Perm.append_right _ ?_
        rw [← List.append_assoc]
        exact List.Perm.append_right _ List.perm_append_comm
      exact this _
    refine Node_core HA (fun hb => absurd hb (by omega)) fun j1 st1 hij1 hst1 => ?_
    obtain rfl : j1 = i := by omega
    rw [hja] at hst1
    injection hst1 with hst1
    subst hst1
    refine h2 X d (headL a ++ M) hun ?_ HR back
    rw [hq]
    exact ⟨u.ni, u.bn, u.out, u.hard, u.from_, u.dk, u.n⟩
theorem committed_eq (hc : 0 ≤ X.commit) : committedM X 1 = X.log.take X.commit.toNat := by
  unfold committedM fromL
  rw [show (if (1 : Int) > 1 then 1 else (1 : Int)) = 1 from rfl]
  by_cases h : 1 > X.commit
  · rw [if_pos h, show X.commit.toNat = 0 by omega, List.take_zero]
  · rw [if_neg h]
    show (X.log.drop 0).take _ = _
    rw [List.drop_zero]
    congr 1; omega
/-! ## What was seen -/
def LedI (g : GH) (f : Int → Option Int) : Prop := ∀ T who, f T = some who → g.ll T ≠ [] ∧ g.ld T = who
def AgrI (k : Nat) (g : GH) (f : Int → Option RE) : Prop := ∀ (j : Nat) e, f ((j : Int) + 1) = some e → ∃ T p, Cm k g T p ∧ p[j]? = some e
theorem LedI.grow {f : Int → Option Int} (h : LedI g f) (G : GLe g g') : LedI g' f := fun T who e => by
  obtain ⟨h1, h2⟩ := h T who e
  exact ⟨pre_nil (G.ll T) h1, by rw [G.ld T h1]; exact h2⟩
theorem AgrI.grow {f : Int → Option RE} (h : AgrI k g f) (G : GLe g g') : AgrI k g' f := fun j e he => by
  obtain ⟨T, p, h1, h2⟩ := h j e he
  exact ⟨T, p, h1.grow G, h2⟩
theorem agr_same {f : Int → Option RE} (I : GI k g) (h : AgrI k g f) {T : Int} {c : List RE} (hc : Cm k g T c) {j : Nat} {e x : RE} (h1 : f ((j : Int) + 1) = some e) (h2 : c[j]? = some x) : e = x := by
  obtain ⟨U, p, h3, h4⟩ := h j e h1
  rcases Cm.one I.L h3 hc with hp | hp
  · rw [get_of_pre hp (List.getElem?_eq_some_iff.1 h4).1, h4] at h2
    injection h2
  · rw [get_of_pre hp (List.getElem?_eq_some_iff.1 h2).1, h2] at h4
    injection h4 with h4
    exact h4.symm
def setI {α : Type} (f : Int → Option α) (x : Int) (c : α) : Int → Option α := fun y => if y = x then some c else f y
theorem setI_map {α : Type} (V : α → Value) (f : Int → Option α) (x : Int) (c : α) : updV (fun y => (f y).map V) x (V c) = fun y => (setI f x c y).map V := by
  funext y
  unfold updV setI
  split <;> rfl
set_option maxRecDepth 100000 in
theorem law10_GroupSafe_ok (w0 : 0 ≤ n ∧ n ≤ 255) (w1 : RdS hB 8 l (eSTP.fl xs) ∧ xs.length ≤ 140737488351232) : C_law10_GroupSafe n l hB fun r h' => r = true ∧ Ext hB.size hB h' := by
  refine A_law10_GroupSafe ?_
  unfold S_law10_GroupSafe
  obtain ⟨A, hxl⟩ := w1
  have hn := rdn A
  refine law_open (m := 7) (R := fun r h' => r = true ∧ Ext hB.size hB h') (by decide) w0 A hxl (fun h' e => ⟨rfl, e⟩) fun hfew k h1k h7k h1 gp H => ?_
  have hx4 := hfew.2
  obtain ⟨L, HA, back⟩ := H.un
  refine mkMapE (k := 3) HA fun h2 b1 HA => mkMapE (k := 3) HA fun h3 b2 HA => ?_
  have H : GroupH hB h3 gp (gNew k) [] [mapE Tryz.prog 3 b2 0 (fun x => ((fun _ => none : Int → Option RE) x).map reV), mapE Tryz.prog 3 b1 0 (fun x => ((fun _ => none : Int → Option Int) x).map (Value.int .i64))] := back h3 _ HA
  refine loop1 (s1 := .one (.int .i64)) (fun (y : Int) h2 => ∃ (j : Nat) (G : GS) (g : GH) (fa : Int → Option RE) (fl : Int → Option Int) (m1 m2 : Nat), y = j ∧ j ≤ xs.length ∧ GInv k g j G ∧ LedI g fl ∧ AgrI k g fa ∧ m1 ≤ j * 10 ∧ m2 ≤ j * 10000 ∧ GroupH hB h2 gp G [] [mapE Tryz.prog 3 b2 m2 (fun x => (fa x).map reV), mapE Tryz.prog 3 b1 m1 (fun x => (fl x).map (Value.int .i64))]) (fun (y : Int) _ => (xs.length - y).toNat)
    ⟨0, _, _, _, _, 0, 0, rfl, Nat.zero_le _, gNew_inv h1k h7k, (fun T who e => by cases e), (fun j e he => by cases he), Nat.zero_le _, Nat.zero_le _, H⟩ fun _ (y : Int) h2 hI => ?_
  clear H HA back
  obtain ⟨j, G, g, fa, fl, m1, m2, rfl, hj, I, hL, hA, hm1, hm2, H⟩ := hI
  refine brD (fun hc => ?_) fun hc => ⟨rfl, H.ext⟩
  have hj2 : j < xs.length := by omega
  have A1 := H.arg A
  refine ixR A1 j rfl hj2 fun e he => ld8E A1 he hj2 ?_
  refine H.alloc (cs := stS s0) fun h3 b H => ?_
  refine H.st8 (s := xs[j]) fun h4 H => H.ld8 (s := xs[j]) ?_
  refine group_Do_ok (s := xs[j]) H.tail I (by omega) fun h5 H => ?_
  obtain ⟨g', L', I'⟩ := gDo_inv I xs[j]
  have hL := hL.grow L'
  have hA := hA.grow L'
  generalize (gDo G xs[j]).1 = G' at H I'
  clear I
  refine loop1 (s1 := .one (.int .i64)) (fun (y : Int) h6 => ∃ (i : Nat) (fa : Int → Option RE) (fl : Int → Option Int) (m1 m2 : Nat), y = i ∧ i ≤ k ∧ LedI g' fl ∧ AgrI k g' fa ∧ m1 ≤ j * 10 + i ∧ m2 ≤ j * 10000 + i * 1024 ∧ GroupH hB h6 gp G' [] [mapE Tryz.prog 3 b2 m2 (fun x => (fa x).map reV), mapE Tryz.prog 3 b1 m1 (fun x => (fl x).map (Value.int .i64))]) (fun (y : Int) _ => (k - y).toNat)
    ⟨0, fa, fl, m1, m2, rfl, Nat.zero_le _, hL, hA, by omega, by omega, H⟩ fun _ (y : Int) h6 hI => ?_
  clear H hL hA hm1 hm2
  obtain ⟨i, fa, fl, m1, m2, rfl, hi, hL, hA, hm1, hm2, H⟩ := hI
  refine brD (fun hc2 => ?_) fun hc2 => ?_
  · have hik : i < k := by omega
    rw [w64 (n := (i : Int) + 1) (by omega) (by omega)]
    refine H.nodeR I' hik (fun _ => brY rfl ⟨⟨i + 1, fa, fl, m1, m2, by omega, by omega, hL, hA, by omega, by omega, H⟩, by omega⟩) fun X d M _ u HR back => brF ?_
    have bn := u.bn
    have ni := u.ni
    refine raft_Role_ok HR ?_
    have hT : in64 X.term := by have := bn.t; unfold in64; omega
    refine join0 (fun h7 => ∃ (fl : Int → Option Int) (m1 : Nat), LedI g' fl ∧ m1 ≤ j * 10 + i + 1 ∧ RaftAt hB h7 d X ([mapE Tryz.prog 3 b2 m2 (fun x => (fa x).map reV), mapE Tryz.prog 3 b1 m1 (fun x => (fl x).map (Value.int .i64))] ++ M)) (fun _ h7 hJ => ?_) ?_
    · clear HR hL
      obtain ⟨fl, m1, hL, hm1, HR⟩ := hJ
      refine raft_Committed_ok HR bn.l (by have := ni.c1; have := bn.l; omega) fun r h8 HR => ?_
      rw [committed_eq ni.c0] at HR
      have hcm := ni.com
      have hclen : (X.log.take X.commit.toNat).length ≤ 1024 := by rw [List.length_take]; have := bn.l; omega
      generalize X.log.take X.commit.toNat = cs at HR hcm hclen
      refine loop1 (s1 := .one (.int .i64)) (fun (y : Int) h9 => ∃ (x : Nat) (fa : Int → Option RE) (m2 : Nat), y = x ∧ x ≤ cs.length ∧ AgrI k g' fa ∧ m2 ≤ j * 10000 + i * 1024 + x ∧ RaftAt hB h9 d X (.own r 2 (eRE.fl cs) :: mapE Tryz.prog 3 b2 m2 (fun x => (fa x).map reV) :: mapE Tryz.prog 3 b1 m1 (fun x => (fl x).map (Value.int .i64)) :: M)) (fun (y : Int) _ => (cs.length - y).toNat)
        ⟨0, fa, m2, rfl, Nat.zero_le _, hA, by omega, HR⟩ fun _ (y : Int) h9 hI => ?_
      clear HR hA hm2
      obtain ⟨x, fa, m2, rfl, hx, hA, hm2, HR⟩ := hI
      obtain ⟨L, HA, back2⟩ := HR.aside
      have hrn := HA.n (E := eRE) 0 rfl
      refine brD (fun hc3 => ?_) fun hc3 => ?_
      · have hx2 : x < cs.length := by omega
        have hk64 : in64 ((x : Int) + 1) := by unfold in64; omega
        rw [w64 (n := (x : Int) + 1) (by omega) (by omega)]
        refine ixAt HA 0 rfl x rfl hx2 fun e1 he1 => ldEl0 (E := eRE) HA 0 rfl he1 hx2 cs[x].term rfl (ldEl (E := eRE) (j := 1) HA 0 rfl he1 hx2 cs[x].data rfl ?_)
        refine allocAt (cs := [.int .i64 0, .string ⟨#[]⟩]) HA fun h10 p2 HA => ?_
        refine stAt0 HA 0 rfl rfl fun h10 HA => stAt (j := 1) HA 0 rfl rfl fun h10 HA => ?_
        refine lookIE (f := fa) HA 2 rfl hk64 ?_
        refine allocAt (cs := [.int .i64 0, .string ⟨#[]⟩]) HA fun h11 pf HA => ?_
        refine stAt0 HA 0 rfl rfl fun h11 HA => stAt (j := 1) HA 0 rfl rfl fun h11 HA => ?_
        have put : ∀ {h12 : Heap} {c0 c1 : List Value} {t0 t1 : TypeId} {K : Heap → Prop}, At hB h12 (.blk pf t0 c0 :: .blk p2 t1 c1 :: .own r 2 (eRE.fl cs) :: mapE Tryz.prog 3 b2 m2 (fun x => (fa x).map reV) :: mapE Tryz.prog 3 b1 m1 (fun x => (fl x).map (Value.int .i64)) :: (M ++ L)) →
            (∀ h', (∃ (x' : Nat) (fa : Int → Option RE) (m2 : Nat), ((x : Int) + 1) = x' ∧ x' ≤ cs.length ∧ AgrI k g' fa ∧ m2 ≤ j * 10000 + i * 1024 + x' ∧ RaftAt hB h' d X (.own r 2 (eRE.fl cs) :: mapE Tryz.prog 3 b2 m2 (fun x => (fa x).map reV) :: mapE Tryz.prog 3 b1 m1 (fun x => (fl x).map (Value.int .i64)) :: M)) → K h') →
            OpU (P := Tryz.prog) (Instr.mapUpdate 28 (.map (some b2)) (.int .i64 ((x : Int) + 1)) (.agg #[.int .i64 cs[x].term, .string cs[x].data])) h12 K := fun {h12 c0 c1 t0 t1 K} HA hK => by
          refine upd_E mapIE HA 3 rfl (by omega) hk64 (reV cs[x]) fun h' HA => hK h' ⟨x + 1, setI fa ((x : Int) + 1) cs[x], m2 + 1, by omega, by omega, fun z ez hz => ?_, by omega, ?_⟩
          · unfold setI at hz
            by_cases e : (z : Int) + 1 = (x : Int) + 1
            · rw [if_pos e] at hz
              injection hz with hz
              obtain rfl : z = x := by omega
              exact ⟨_, _, hcm, by rw [List.getElem?_eq_getElem hx2, hz]⟩
            · rw [if_neg e] at hz
              exact hA z ez hz
          · rw [setI_map] at HA
            exact back2 h' _ HA.tail.tail
        cases hfx : fa ((x : Int) + 1) with
        | none =>
          refine brN rfl ?_
          refine ldAt0 HA 1 rfl cs[x].term rfl (ldAt (j := 1) HA 1 rfl cs[x].data rfl ?_)
          exact put HA fun h' hK => ⟨hK, by omega⟩
        | some ex =>
          have hsame := agr_same I'.gi hA hcm hfx (List.getElem?_eq_getElem hx2)
          refine brY rfl ?_
          refine ldAt0 HA 0 rfl ex.term (by rw [hfx]; rfl) (ldAt (j := 1) HA 0 rfl ex.data (by rw [hfx]; rfl) (ldAt0 HA 1 rfl cs[x].term rfl (ldAt (j := 1) HA 1 rfl cs[x].data rfl ?_)))
          refine opNeq (us := eRE.cells ex) (vs := eRE.cells cs[x]) (by kernel_rfl) (brN (by rw [(re_eq _ _).2 hsame]; rfl) ?_)
          refine ldAt0 HA 1 rfl cs[x].term rfl (ldAt (j := 1) HA 1 rfl cs[x].data rfl ?_)
          exact put HA fun h' hK => ⟨hK, by omega⟩
      · have HG := back [mapE Tryz.prog 3 b2 m2 (fun x => (fa x).map reV), mapE Tryz.prog 3 b1 m1 (fun x => (fl x).map (Value.int .i64))] h9 HR.tail
        exact ⟨⟨i + 1, fa, fl, m1, m2, by omega, by omega, hL, hA, by omega, by omega, HG⟩, by omega⟩
    · refine br beq_iff_eq (fun hr => ?_) fun hr => ⟨fl, m1, hL, by omega, HR⟩
      have ld := ni.lead hr
      refine raft_Term_ok HR ?_
      obtain ⟨L, HA, back2⟩ := HR.aside
      refine lookII (f := fl) HA 1 rfl hT ?_
      have put : ∀ {h8 : Heap}, RaftAt hB h8 d X ([mapE Tryz.prog 3 b2 m2 (fun x => (fa x).map reV), mapE Tryz.prog 3 b1 m1 (fun x => (fl x).map (Value.int .i64))] ++ M) → OpU (P := Tryz.prog) (Instr.mapUpdate 27 (.map (some b1)) (.int .i64 X.term) (.int .i64 (i : Int))) h8 fun h7 => ∃ (fl : Int → Option Int) (m1 : Nat), LedI g' fl ∧ m1 ≤ j * 10 + i + 1 ∧ RaftAt hB h7 d X ([mapE Tryz.prog 3 b2 m2 (fun x => (fa x).map reV), mapE Tryz.prog 3 b1 m1 (fun x => (fl x).map (Value.int .i64))] ++ M) := fun {h8} HR => by
        obtain ⟨L, HA, back3⟩ := HR.aside
        refine upd_E mapII HA 1 rfl (by omega) hT (Value.int .i64 (i : Int)) fun h' HA => ⟨setI fl X.term (i : Int), m1 + 1, fun T who ht => ?_, by omega, ?_⟩
        · unfold setI at ht
          by_cases e : T = X.term
          · rw [if_pos e] at ht
            injection ht with ht
            rw [e]
            exact ⟨by rw [ld.ll]; exact ld.ne, by rw [ld.ld, ht]⟩
          · rw [if_neg e] at ht
            exact hL T who ht
        · rw [setI_map] at HA
          exact back3 h' _ HA
      cases hfx : fl X.term with
      | none => exact brN rfl (raft_Term_ok HR (put HR))
      | some who =>
        have hw : who = (i : Int) := by
          have := (hL X.term who hfx).2
          rw [ld.ld] at this
          exact this.symm
        refine brY rfl (brN ?_ (raft_Term_ok HR (put HR)))
        show (who != (i : Int)) = false
        rw [hw, bne_self_eq_false]
  · have hik : i = k := by omega
    rw [w64 (by omega) (by omega)]
    exact ⟨⟨j + 1, G', g', fa, fl, m1, m2, by omega, by omega, I', hL, hA, by omega, by omega, H⟩, by omega⟩
/-! ## Who leads later -/
theorem raft_Committed_nil {R : Sl → Heap → Prop} (hR : R ⟨none, 0, 0⟩ h) : C_raft_Node_Committed none 1 h R := A_raft_Node_Committed hR
theorem raft_Role_nil {R : Int → Heap → Prop} (hR : R 0 h) : C_raft_Node_Role none h R := A_raft_Node_Role hR
set_option maxRecDepth 100000 in
theorem law10_GroupLater_ok (w0 : 0 ≤ n ∧ n ≤ 255) (w1 : RdS hB 8 l (eSTP.fl xs) ∧ xs.length ≤ 140737488351232) : C_law10_GroupLater n l hB fun r h' => r = true ∧ Ext hB.size hB h' := by
  refine A_law10_GroupLater ?_
  unfold S_law10_GroupLater
  obtain ⟨A, hxl⟩ := w1
  have hn := rdn A
  refine law_open (m := 7) (R := fun r h' => r = true ∧ Ext hB.size hB h') (by decide) w0 A hxl (fun h' e => ⟨rfl, e⟩) fun hfew k h1k h7k h1 gp H => ?_
  have hx4 := hfew.2
  have H : GroupH hB h1 gp (gNew k) [] [.own ⟨none, 0, 0⟩ 2 (eRE.fl [])] := by
    obtain ⟨L, HA, back⟩ := H.un
    exact back h1 _ (HA.nil 2)
  refine loop3 (s1 := .one .sl) (s2 := .one (.int .i64)) (s3 := .one (.int .i64)) (fun (ag : Sl) (in_ y : Int) h2 => ∃ (j : Nat) (G : GS) (g : GH) (as_ : List RE), y = j ∧ j ≤ xs.length ∧ GInv k g j G ∧ Cm k g in_ as_ ∧ 0 ≤ in_ ∧ GroupH hB h2 gp G [] [.own ag 2 (eRE.fl as_)]) (fun _ _ (y : Int) _ => (xs.length - y).toNat)
    ⟨0, _, _, [], rfl, Nat.zero_le _, gNew_inv h1k h7k, .inl rfl, Int.le_refl _, H⟩ fun _ (ag : Sl) (in_ y : Int) h2 hI => ?_
  clear H
  obtain ⟨j, G, g, as_, rfl, hj, I, hC, hin, H⟩ := hI
  refine brD (fun hc => ?_) fun hc => ⟨rfl, H.ext⟩
  have hj2 : j < xs.length := by omega
  have A1 := H.arg A
  refine ixR A1 j rfl hj2 fun e he => ld8E A1 he hj2 ?_
  refine H.alloc (cs := stS s0) fun h3 b H => ?_
  refine H.st8 (s := xs[j]) fun h4 H => H.ld8 (s := xs[j]) ?_
  refine group_Do_ok (s := xs[j]) H.tail I (by omega) fun h5 H => ?_
  obtain ⟨g', L', I'⟩ := gDo_inv I xs[j]
  have hC := hC.grow L'
  generalize (gDo G xs[j]).1 = G' at H I'
  clear I
  refine loop1 (s1 := .one (.int .i64)) (fun (y : Int) h6 => ∃ i : Nat, y = i ∧ i ≤ k ∧ GroupH hB h6 gp G' [] [.own ag 2 (eRE.fl as_)]) (fun (y : Int) _ => (k - y).toNat)
    ⟨0, rfl, Nat.zero_le _, H⟩ fun _ (y : Int) h6 hI => ?_
  clear H
  obtain ⟨i, rfl, hi, H⟩ := hI
  refine brD (fun hc2 => ?_) fun hc2 => ?_
  · have hik : i < k := by omega
    rw [w64 (n := (i : Int) + 1) (by omega) (by omega)]
    refine H.nodeR I' hik (fun _ => ?_) fun X d M _ u HR back => ?_
    · refine join1 (s1 := .one .bool) (fun (w : Bool) h7 => w = false ∧ h7 = h6) (fun _ (w : Bool) h7 hJ => ?_) ?_
      · obtain ⟨rfl, rfl⟩ := hJ
        exact brN rfl ⟨⟨i + 1, by omega, by omega, H⟩, by omega⟩
      · exact raft_Role_nil (brN (by decide) ⟨rfl, rfl⟩)
    · have bn := u.bn
      have ni := u.ni
      refine join1 (s1 := .one .bool) (fun (w : Bool) h7 => (w = true → X.role = 3 ∧ X.term > in_) ∧ h7 = h6) (fun _ (w : Bool) h7 hJ => ?_) ?_
      rotate_left
      · refine raft_Role_ok HR (br beq_iff_eq (fun hr => raft_Term_ok HR ⟨fun hw => ⟨hr, of_decide_eq_true hw⟩, rfl⟩) fun hr => ⟨fun hw => (by cases hw), rfl⟩)
      · obtain ⟨hw, rfl⟩ := hJ
        refine brB (fun hwt => ?_) fun hwf => ⟨⟨i + 1, by omega, by omega, back _ _ HR⟩, by omega⟩
        obtain ⟨hr, hT⟩ := hw hwt
        have ld := ni.lead hr
        have hpre : as_ <+: X.log := by
          have := (hC.sub (List.prefix_refl _) (Int.le_of_lt hT)).pre I'.gi.L (by rw [ld.ll]; exact ld.ne)
          rwa [ld.ll] at this
        have hple := pre_len hpre
        refine raft_State_ok HR (by have := bn.l; omega) fun r h8 HR => ?_
        obtain ⟨L, HA, back2⟩ := HR.aside
        have hrn := HA.n (E := eRE) 0 rfl
        have han := HA.n (E := eRE) 1 rfl
        refine brD (fun hlt => absurd hlt (by rw [hrn, han]; omega)) fun _ => ?_
        refine loop1 (s1 := .one (.int .i64)) (fun (y : Int) h9 => ∃ x : Nat, y = x ∧ x ≤ as_.length ∧ At hB h9 (.own r 2 (eRE.fl X.log) :: .own ag 2 (eRE.fl as_) :: (M ++ L))) (fun (y : Int) _ => (as_.length - y).toNat)
          ⟨0, rfl, Nat.zero_le _, HA⟩ fun _ (y : Int) h9 hI => ?_
        clear HA HR
        obtain ⟨x, rfl, hx, HA⟩ := hI
        refine brD (fun hc3 => ?_) fun hc3 => ?_
        · have hx2 : x < as_.length := by omega
          have hx3 : x < X.log.length := by omega
          have heq : as_[x] = X.log[x] := by
            have := get_of_pre hpre hx2
            rw [List.getElem?_eq_getElem hx2, List.getElem?_eq_getElem hx3] at this
            injection this with this
            exact this.symm
          refine ixAt HA 1 rfl x rfl hx2 fun e1 he1 => ldEl0 (E := eRE) HA 1 rfl he1 hx2 as_[x].term rfl (ldEl (E := eRE) (j := 1) HA 1 rfl he1 hx2 as_[x].data rfl ?_)
          refine allocAt (cs := [.int .i64 0, .string ⟨#[]⟩]) HA fun h10 p2 HA => ?_
          refine stAt0 HA 0 rfl rfl fun h10 HA => stAt (j := 1) HA 0 rfl rfl fun h10 HA => ?_
          refine ixAt HA 1 rfl x rfl hx3 fun e1 he1 => ldEl0 (E := eRE) HA 1 rfl he1 hx3 X.log[x].term rfl (ldEl (E := eRE) (j := 1) HA 1 rfl he1 hx3 X.log[x].data rfl ?_)
          refine ldAt0 HA 0 rfl as_[x].term rfl (ldAt (j := 1) HA 0 rfl as_[x].data rfl ?_)
          refine opNeq (us := eRE.cells X.log[x]) (vs := eRE.cells as_[x]) (by kernel_rfl) (brN (by rw [(re_eq _ _).2 heq.symm]; rfl) ?_)
          rw [w64 (by omega) (by have := bn.l; omega)]
          exact ⟨⟨x + 1, by omega, by omega, HA.tail⟩, by omega⟩
        · have HR : RaftAt hB h9 d X (.own r 2 (eRE.fl X.log) :: .own ag 2 (eRE.fl as_) :: M) := back2 h9 _ HA
          exact ⟨⟨i + 1, by omega, by omega, back _ _ HR.tail⟩, by omega⟩
  · refine loop3 (s1 := .one .sl) (s2 := .one (.int .i64)) (s3 := .one (.int .i64)) (fun (ag : Sl) (in_ y : Int) h7 => ∃ (i : Nat) (as_ : List RE), y = i ∧ i ≤ k ∧ Cm k g' in_ as_ ∧ 0 ≤ in_ ∧ GroupH hB h7 gp G' [] [.own ag 2 (eRE.fl as_)]) (fun _ _ (y : Int) _ => (k - y).toNat)
      ⟨0, as_, rfl, Nat.zero_le _, hC, hin, H⟩ fun _ (ag : Sl) (in_ y : Int) h7 hI => ?_
    clear H hC hin
    obtain ⟨i, as_, rfl, hi, hC, hin, H⟩ := hI
    refine brD (fun hc3 => ?_) fun hc3 => ?_
    · have hik : i < k := by omega
      rw [w64 (n := (i : Int) + 1) (by omega) (by omega)]
      refine H.nodeR I' hik (fun _ => ?_) fun X d M _ u HR back => ?_
      · exact raft_Committed_nil (brN (decide_eq_false (by show ¬ ((0 : Nat) : Int) > (ag.n : Int); omega)) ⟨⟨i + 1, as_, by omega, by omega, hC, hin, H⟩, by omega⟩)
      · have bn := u.bn
        have ni := u.ni
        refine raft_Committed_ok HR bn.l (by have := ni.c1; have := bn.l; omega) fun r h8 HR => ?_
        rw [committed_eq ni.c0] at HR
        refine brD (fun hgt => ?_) fun hgt => ?_
        · refine raft_Term_ok HR (let_ ⟨⟨i + 1, X.log.take X.commit.toNat, by omega, by omega, ?_, ?_, ?_⟩, by omega⟩)
          · exact ni.com.sub (List.prefix_refl _) (by split <;> omega)
          · split <;> omega
          · exact back [_] h8 (HR.sub (List.Sublist.cons_cons _ (List.sublist_cons_self ..)))
        · exact ⟨⟨i + 1, as_, by omega, by omega, hC, hin, back [_] h8 HR.tail⟩, by omega⟩
    · have hik : i = k := by omega
      rw [w64 (n := (j : Int) + 1) (by omega) (by omega)]
      exact ⟨⟨j + 1, G', g', as_, by omega, by omega, I', hC, hin, H⟩, by omega⟩
end
end Go.Proofs.YtniojdaddolnfaaGreat
