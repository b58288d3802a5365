/-
  Layer 6 (hard): what the document fixes; the laws HardRecords, HardCrash over the heap alone; their arguments.
-/
import Derived.Test.YtnognoiaakiepaaHc
import Derived.Test.YtnognoiaakiepaaV4
namespace Go.Proofs.Ytnognoiaakiepaa
open Go

structure SvA where
  hard : Bool
  term : Int
  vote : Int
  frm : Int
  s : Sl
  es : List Ent
def SvA.sav (a : SvA) : Sav := ⟨a.hard, a.term, a.vote, a.frm, a.es⟩
def eSV : Enc SvA 5 := ⟨fun a => [.bool a.hard, .int .i64 a.term, .int .i64 a.vote, .int .i64 a.frm, .slice a.s.a a.s.n a.s.c], fun _ => rfl, by decide, fun x u hu => by
  simp only [List.mem_cons, List.not_mem_nil, or_false] at hu
  rcases hu with rfl | rfl | rfl | rfl | rfl <;> rfl⟩
theorem TSV : ElemT Try.prog 116 111 5 56 := .of (by kernel_rfl)
section
variable {h0 hB h : Heap} {L F : List Res} {d p : Nat} {ty : TypeId} {s sd l : Sl} {b : List UInt8} {n : Nat} {es : List Ent} {bs : List BR} {rs : List WRec}
theorem hard_Recover_ok2 {R : KL [.int .i64, .int .i64, .sl] → Int → Heap → Prop} (H : At h0 hB (diskL d ty sd b n ++ F)) (hl : b.length ≤ 1048576) (hge : n ≤ (walR b).2.1)
    (hR : ∀ tg vg sg eg code h', ((playM (walR b).1 = none ∧ code = 2) ∨ (playM (walR b).1 = some ⟨tg, vg, eg⟩ ∧ code = 0)) → (∃ s', At h0 h' (.own sg 2 (eEN.fl eg) :: (diskL d ty s' (b.take (walR b).2.1) (walR b).2.1 ++ F))) → R (tg, vg, sg, ()) code h') : C_hard_Recover (some ⟨d, 0, none⟩) hB R :=
  hard_Recover_ok H hl hge (fun hp h' s' H => hR 0 0 _ [] 2 h' (.inl ⟨hp, rfl⟩) ⟨s', H.nil 2⟩) fun st s h' s' hp H => hR st.term st.vote s st.es 0 h' (.inr ⟨hp, rfl⟩) ⟨s', H⟩
theorem ref06_Play_ok2 {R : KL [.int .i64, .int .i64, .sl] → Bool → Heap → Prop} (H : At h0 hB F) (hq : SrcS h0 F l rs) (hl : rs.length ≤ 1000000000)
    (hR : ∀ tg vg sg eg ok h', ((playM rs = none ∧ ok = false) ∨ (playM rs = some ⟨tg, vg, eg⟩ ∧ ok = true)) → At h0 h' (.own sg 2 (eEN.fl eg) :: F) → R (tg, vg, sg, ()) ok h') : C_ref06_Play l hB R :=
  ref06_Play_ok H hq hl (fun hp h' H => hR 0 0 _ [] false h' (.inl ⟨hp, rfl⟩) (H.nil 2)) fun st s h' hp H => hR st.term st.vote s st.es true h' (.inr ⟨hp, rfl⟩) H
set_option maxRecDepth 100000 in
theorem savR_size {s : Sav} (h : ∀ e ∈ s.es, e.d.length ≤ 600) : (recsM (savR s)).length ≤ (s.es.length + 1) * 627 := by
  have h1 := recsM_le' 618 _ fun r hr => (savR_ok h r hr).2
  have h2 := savR_len s
  have h3 : (savR s).length * 627 ≤ (s.es.length + 1) * 627 := Nat.mul_le_mul_right _ h2
  omega
set_option maxRecDepth 100000 in
theorem walR_recs {rs : List WRec} (hok : ∀ r ∈ rs, r.ok) : walR (recsM rs) = (rs, (recsM rs).length, 0) := by
  obtain ⟨f2, hf2, hw3⟩ := walM_recs [] rs [] ((recsM rs).length + 1) [] 0 hok rfl (by simp)
  simp only [List.nil_append, Nat.zero_add, List.append_nil] at hf2 hw3
  rw [walM_done (Nat.lt_irrefl _)] at hw3
  exact hw3
/-! ## fixed -/
def fxA : Sav := ⟨true, 3, 1, 1, [⟨2, [120]⟩, ⟨3, [121]⟩]⟩
def fxB : Sav := ⟨false, 0, 0, 2, [⟨3, [122]⟩]⟩
theorem fxA_d : ∀ e ∈ fxA.es, e.d.length ≤ 600 := by
  intro e he
  simp only [fxA, List.mem_cons, List.not_mem_nil, or_false] at he
  rcases he with rfl | rfl <;> decide
theorem fxB_d : ∀ e ∈ fxB.es, e.d.length ≤ 600 := by
  intro e he
  simp only [fxB, List.mem_cons, List.not_mem_nil, or_false] at he
  subst he; decide
theorem fx_play : playM (savR fxA ++ savR fxB) = some ⟨3, 1, [⟨2, [120]⟩, ⟨3, [122]⟩]⟩ := by kernel_rfl
theorem fx_play0 : playM [] = some ⟨0, -1, []⟩ := by kernel_rfl
theorem fx_play3 : playM [⟨3, []⟩] = none := by kernel_rfl
theorem fx_right : rightM ⟨3, 1, [⟨2, [120]⟩, ⟨3, [122]⟩]⟩ = true := by kernel_rfl
set_option maxRecDepth 100000 in
theorem law06_fixed_ok {R : Bool → Heap → Prop} (hR : ∀ h', Ext h.size h h' → R true h') : C_law06_fixed h R := by
  refine A_law06_fixed ?_
  unfold S_law06_fixed
  have szA := savR_size fxA_d
  have szB := savR_size fxB_d
  have okA : ∀ r ∈ savR fxA, r.ok := fun r hr => (savR_ok fxA_d r hr).1
  have okB : ∀ r ∈ savR fxB, r.ok := fun r hr => (savR_ok fxB_d r hr).1
  have lA : fxA.es.length = 2 := rfl
  have lB : fxB.es.length = 1 := rfl
  rw [lA] at szA
  rw [lB] at szB
  refine disk_New_ok (At.start h) fun h1 d ty H => ?_
  refine alloc (cs := eEN.fl fxA.es) fun h2 b2 e2 z2 => ?_
  have r2 : RdS h2 2 ⟨some ⟨h1.size, 0, none⟩, 2, 2⟩ (eEN.fl fxA.es) := (Own.full b2 (sz := 2) (n := 2) (by rfl) (by decide)).rd
  refine hard_Write_ok (a := true) (t := 3) (v := 1) (f := 1) (es := fxA.es) (F := []) (H.ext' e2) r2 (by decide) okA (by show 0 + (recsM (savR fxA)).length ≤ _; omega) fun h3 s3 H => ?_
  refine disk_Sync_ok (F := []) H fun h4 H => ?_
  refine alloc (cs := eEN.fl fxB.es) fun h5 b5 e5 z5 => ?_
  have r5 : RdS h5 2 ⟨some ⟨h4.size, 0, none⟩, 1, 1⟩ (eEN.fl fxB.es) := (Own.full b5 (sz := 2) (n := 1) (by rfl) (by decide)).rd
  have eA : ([] ++ recsM (savR ⟨true, 3, 1, 1, fxA.es⟩) : List UInt8) = recsM (savR fxA) := rfl
  rw [eA] at H
  refine hard_Write_ok (a := false) (t := 0) (v := 0) (f := 2) (es := fxB.es) (F := []) (H.ext' e5) r5 (by decide) okB (by show _ + (recsM (savR fxB)).length ≤ _; omega) fun h6 s6 H => ?_
  have eB : recsM (savR fxA) ++ recsM (savR ⟨false, 0, 0, 2, fxB.es⟩) = recsM (savR fxA ++ savR fxB) := (recsM_app ..).symm
  rw [eB] at H
  have hw := walR_recs (rs := savR fxA ++ savR fxB) fun r hr => (List.mem_append.1 hr).elim (okA r) (okB r)
  have hln : (recsM (savR fxA ++ savR fxB)).length = (recsM (savR fxA)).length + (recsM (savR fxB)).length := by rw [recsM_app, List.length_append]
  refine hard_Recover_ok (F := []) H (by omega) (by rw [hw]; simp only; omega) (fun hp => by rw [hw] at hp; rw [fx_play] at hp; cases hp) fun st s7 h7 s7' hp H => ?_
  rw [hw] at hp
  simp only at hp
  rw [fx_play] at hp
  injection hp with hp
  subst hp
  repeat (first | with_reducible refine nn ?_ | with_reducible refine let_ ?_ | with_reducible refine brSome ?_ | with_reducible refine brF ?_ | with_reducible refine brT ?_ | ((with_reducible apply ldAt H 0); exact rfl; exact rfl) | ((with_reducible apply ldAt0 H 0); exact rfl; exact rfl) | ((with_reducible apply ldAt H 1); exact rfl; exact rfl) | ((with_reducible apply ldAt0 H 1); exact rfl; exact rfl) | ((with_reducible apply ldAt H 2); exact rfl; exact rfl) | ((with_reducible apply ldAt0 H 2); exact rfl; exact rfl) | ((with_reducible apply ldAt H 3); exact rfl; exact rfl) | ((with_reducible apply ldAt0 H 3); exact rfl; exact rfl) | ((with_reducible apply stAt H 0); exact rfl; exact rfl; intro h H) | ((with_reducible apply stAt0 H 0); exact rfl; exact rfl; intro h H) | ((with_reducible apply stAt H 1); exact rfl; exact rfl; intro h H) | ((with_reducible apply stAt0 H 1); exact rfl; exact rfl; intro h H) | ((with_reducible apply stAt H 2); exact rfl; exact rfl; intro h H) | ((with_reducible apply stAt0 H 2); exact rfl; exact rfl; intro h H) | ((with_reducible apply stAt H 3); exact rfl; exact rfl; intro h H) | ((with_reducible apply stAt0 H 3); exact rfl; exact rfl; intro h H) | ((with_reducible apply allocAt H); intro h b H) | ((with_reducible refine ⟨?_, ?_⟩); first | ((with_reducible apply ldAt H 0); exact rfl; exact rfl; exact rfl) | ((with_reducible apply ldAt0 H 0); exact rfl; exact rfl; exact rfl) | ((with_reducible apply ldAt H 1); exact rfl; exact rfl; exact rfl) | ((with_reducible apply ldAt0 H 1); exact rfl; exact rfl; exact rfl) | ((with_reducible apply ldAt H 2); exact rfl; exact rfl; exact rfl) | ((with_reducible apply ldAt0 H 2); exact rfl; exact rfl; exact rfl) | ((with_reducible apply ldAt H 3); exact rfl; exact rfl; exact rfl) | ((with_reducible apply ldAt0 H 3); exact rfl; exact rfl; exact rfl)))
  refine hard_Play_ok (bs := [⟨3, ⟨none, 0, 0⟩, []⟩]) H (fun h' L H => ?_) (fun a ha => by rw [List.mem_singleton.1 ha]; exact Nat.le_refl _) (by decide) (fun _ h9 H => ?_) fun st s h' hp H => by rw [show List.map BR.rec_ [⟨3, ⟨none, 0, 0⟩, []⟩] = [⟨3, []⟩] from rfl, fx_play3] at hp; cases hp
  · have hb : Blk h' _ _ _ := (H.subl (List.sublist_append_right ..)).get 0 rfl
    exact ⟨(Own.full (cs := eBR.fl [⟨3, ⟨none, 0, 0⟩, []⟩]) hb (sz := 2) (n := 1) (by rfl) (by decide)).rd, fun a ha => by rw [List.mem_singleton.1 ha]; exact RdS.nil _ _ _ _⟩
  repeat (first | with_reducible refine nn ?_ | with_reducible refine let_ ?_ | with_reducible refine brSome ?_ | with_reducible refine brF ?_ | with_reducible refine brT ?_ | ((with_reducible apply ldAt H 0); exact rfl; exact rfl) | ((with_reducible apply ldAt0 H 0); exact rfl; exact rfl) | ((with_reducible apply ldAt H 1); exact rfl; exact rfl) | ((with_reducible apply ldAt0 H 1); exact rfl; exact rfl) | ((with_reducible apply ldAt H 2); exact rfl; exact rfl) | ((with_reducible apply ldAt0 H 2); exact rfl; exact rfl) | ((with_reducible apply ldAt H 3); exact rfl; exact rfl) | ((with_reducible apply ldAt0 H 3); exact rfl; exact rfl) | ((with_reducible apply ldAt H 4); exact rfl; exact rfl) | ((with_reducible apply ldAt0 H 4); exact rfl; exact rfl) | ((with_reducible apply stAt H 0); exact rfl; exact rfl; intro h H) | ((with_reducible apply stAt0 H 0); exact rfl; exact rfl; intro h H) | ((with_reducible apply stAt H 1); exact rfl; exact rfl; intro h H) | ((with_reducible apply stAt0 H 1); exact rfl; exact rfl; intro h H) | ((with_reducible apply stAt H 2); exact rfl; exact rfl; intro h H) | ((with_reducible apply stAt0 H 2); exact rfl; exact rfl; intro h H) | ((with_reducible apply stAt H 3); exact rfl; exact rfl; intro h H) | ((with_reducible apply stAt0 H 3); exact rfl; exact rfl; intro h H) | ((with_reducible apply stAt H 4); exact rfl; exact rfl; intro h H) | ((with_reducible apply stAt0 H 4); exact rfl; exact rfl; intro h H) | ((with_reducible apply allocAt H); intro h b H) | ((with_reducible refine ⟨?_, ?_⟩); first | ((with_reducible apply ldAt H 0); exact rfl; exact rfl; exact rfl) | ((with_reducible apply ldAt0 H 0); exact rfl; exact rfl; exact rfl) | ((with_reducible apply ldAt H 1); exact rfl; exact rfl; exact rfl) | ((with_reducible apply ldAt0 H 1); exact rfl; exact rfl; exact rfl) | ((with_reducible apply ldAt H 2); exact rfl; exact rfl; exact rfl) | ((with_reducible apply ldAt0 H 2); exact rfl; exact rfl; exact rfl) | ((with_reducible apply ldAt H 3); exact rfl; exact rfl; exact rfl) | ((with_reducible apply ldAt0 H 3); exact rfl; exact rfl; exact rfl) | ((with_reducible apply ldAt H 4); exact rfl; exact rfl; exact rfl) | ((with_reducible apply ldAt0 H 4); exact rfl; exact rfl; exact rfl)))
  refine hard_Play_ok (bs := []) H (fun h' L H => ⟨RdS.nil _ _ _ _, fun a ha => by cases ha⟩) (fun a ha => by cases ha) (by decide) (fun hp => by rw [show List.map BR.rec_ [] = [] from rfl, fx_play0] at hp; cases hp) fun st s8 h10 hp H => ?_
  rw [show List.map BR.rec_ [] = [] from rfl, fx_play0] at hp
  injection hp with hp
  subst hp
  repeat (first | with_reducible refine nn ?_ | with_reducible refine let_ ?_ | with_reducible refine brSome ?_ | with_reducible refine brF ?_ | with_reducible refine brT ?_ | ((with_reducible apply ldAt H 0); exact rfl; exact rfl) | ((with_reducible apply ldAt0 H 0); exact rfl; exact rfl) | ((with_reducible apply ldAt H 1); exact rfl; exact rfl) | ((with_reducible apply ldAt0 H 1); exact rfl; exact rfl) | ((with_reducible apply ldAt H 2); exact rfl; exact rfl) | ((with_reducible apply ldAt0 H 2); exact rfl; exact rfl) | ((with_reducible apply ldAt H 3); exact rfl; exact rfl) | ((with_reducible apply ldAt0 H 3); exact rfl; exact rfl) | ((with_reducible apply ldAt H 4); exact rfl; exact rfl) | ((with_reducible apply ldAt0 H 4); exact rfl; exact rfl) | ((with_reducible apply ldAt H 5); exact rfl; exact rfl) | ((with_reducible apply ldAt0 H 5); exact rfl; exact rfl) | ((with_reducible apply stAt H 0); exact rfl; exact rfl; intro h H) | ((with_reducible apply stAt0 H 0); exact rfl; exact rfl; intro h H) | ((with_reducible apply stAt H 1); exact rfl; exact rfl; intro h H) | ((with_reducible apply stAt0 H 1); exact rfl; exact rfl; intro h H) | ((with_reducible apply stAt H 2); exact rfl; exact rfl; intro h H) | ((with_reducible apply stAt0 H 2); exact rfl; exact rfl; intro h H) | ((with_reducible apply stAt H 3); exact rfl; exact rfl; intro h H) | ((with_reducible apply stAt0 H 3); exact rfl; exact rfl; intro h H) | ((with_reducible apply stAt H 4); exact rfl; exact rfl; intro h H) | ((with_reducible apply stAt0 H 4); exact rfl; exact rfl; intro h H) | ((with_reducible apply stAt H 5); exact rfl; exact rfl; intro h H) | ((with_reducible apply stAt0 H 5); exact rfl; exact rfl; intro h H) | ((with_reducible apply allocAt H); intro h b H) | ((with_reducible refine ⟨?_, ?_⟩); first | ((with_reducible apply ldAt H 0); exact rfl; exact rfl; exact rfl) | ((with_reducible apply ldAt0 H 0); exact rfl; exact rfl; exact rfl) | ((with_reducible apply ldAt H 1); exact rfl; exact rfl; exact rfl) | ((with_reducible apply ldAt0 H 1); exact rfl; exact rfl; exact rfl) | ((with_reducible apply ldAt H 2); exact rfl; exact rfl; exact rfl) | ((with_reducible apply ldAt0 H 2); exact rfl; exact rfl; exact rfl) | ((with_reducible apply ldAt H 3); exact rfl; exact rfl; exact rfl) | ((with_reducible apply ldAt0 H 3); exact rfl; exact rfl; exact rfl) | ((with_reducible apply ldAt H 4); exact rfl; exact rfl; exact rfl) | ((with_reducible apply ldAt0 H 4); exact rfl; exact rfl; exact rfl) | ((with_reducible apply ldAt H 5); exact rfl; exact rfl; exact rfl) | ((with_reducible apply ldAt0 H 5); exact rfl; exact rfl; exact rfl)))
  refine hard_Recover_nil H fun h11 H => ?_
  repeat (first | with_reducible refine nn ?_ | with_reducible refine let_ ?_ | with_reducible refine brSome ?_ | with_reducible refine brF ?_ | with_reducible refine brT ?_ | ((with_reducible apply ldAt H 0); exact rfl; exact rfl) | ((with_reducible apply ldAt0 H 0); exact rfl; exact rfl) | ((with_reducible apply ldAt H 1); exact rfl; exact rfl) | ((with_reducible apply ldAt0 H 1); exact rfl; exact rfl) | ((with_reducible apply ldAt H 2); exact rfl; exact rfl) | ((with_reducible apply ldAt0 H 2); exact rfl; exact rfl) | ((with_reducible apply ldAt H 3); exact rfl; exact rfl) | ((with_reducible apply ldAt0 H 3); exact rfl; exact rfl) | ((with_reducible apply ldAt H 4); exact rfl; exact rfl) | ((with_reducible apply ldAt0 H 4); exact rfl; exact rfl) | ((with_reducible apply ldAt H 5); exact rfl; exact rfl) | ((with_reducible apply ldAt0 H 5); exact rfl; exact rfl) | ((with_reducible apply ldAt H 6); exact rfl; exact rfl) | ((with_reducible apply ldAt0 H 6); exact rfl; exact rfl) | ((with_reducible apply stAt H 0); exact rfl; exact rfl; intro h H) | ((with_reducible apply stAt0 H 0); exact rfl; exact rfl; intro h H) | ((with_reducible apply stAt H 1); exact rfl; exact rfl; intro h H) | ((with_reducible apply stAt0 H 1); exact rfl; exact rfl; intro h H) | ((with_reducible apply stAt H 2); exact rfl; exact rfl; intro h H) | ((with_reducible apply stAt0 H 2); exact rfl; exact rfl; intro h H) | ((with_reducible apply stAt H 3); exact rfl; exact rfl; intro h H) | ((with_reducible apply stAt0 H 3); exact rfl; exact rfl; intro h H) | ((with_reducible apply stAt H 4); exact rfl; exact rfl; intro h H) | ((with_reducible apply stAt0 H 4); exact rfl; exact rfl; intro h H) | ((with_reducible apply stAt H 5); exact rfl; exact rfl; intro h H) | ((with_reducible apply stAt0 H 5); exact rfl; exact rfl; intro h H) | ((with_reducible apply stAt H 6); exact rfl; exact rfl; intro h H) | ((with_reducible apply stAt0 H 6); exact rfl; exact rfl; intro h H) | ((with_reducible apply allocAt H); intro h b H) | ((with_reducible refine ⟨?_, ?_⟩); first | ((with_reducible apply ldAt H 0); exact rfl; exact rfl; exact rfl) | ((with_reducible apply ldAt0 H 0); exact rfl; exact rfl; exact rfl) | ((with_reducible apply ldAt H 1); exact rfl; exact rfl; exact rfl) | ((with_reducible apply ldAt0 H 1); exact rfl; exact rfl; exact rfl) | ((with_reducible apply ldAt H 2); exact rfl; exact rfl; exact rfl) | ((with_reducible apply ldAt0 H 2); exact rfl; exact rfl; exact rfl) | ((with_reducible apply ldAt H 3); exact rfl; exact rfl; exact rfl) | ((with_reducible apply ldAt0 H 3); exact rfl; exact rfl; exact rfl) | ((with_reducible apply ldAt H 4); exact rfl; exact rfl; exact rfl) | ((with_reducible apply ldAt0 H 4); exact rfl; exact rfl; exact rfl) | ((with_reducible apply ldAt H 5); exact rfl; exact rfl; exact rfl) | ((with_reducible apply ldAt0 H 5); exact rfl; exact rfl; exact rfl) | ((with_reducible apply ldAt H 6); exact rfl; exact rfl; exact rfl) | ((with_reducible apply ldAt0 H 6); exact rfl; exact rfl; exact rfl)))
  have hs7 := H.n (E := eEN) 6 rfl
  refine brY rfl (brY rfl (brY rfl (ldAt0 H 5 rfl (3 : Int) rfl (brY rfl (ldAt H 5 rfl (1 : Int) rfl (brY rfl (ldAt H 5 rfl s7 rfl (brY (by rw [hs7]; rfl) (ldAt H 5 rfl s7 rfl ?_)))))))))
  refine ixAt (E := eEN) H 6 rfl 1 rfl (by decide) fun e he => ldEl (E := eEN) H 6 rfl he (by decide) (strB [122]) rfl (brY (by rw [strB_toList, show (⟨#[122]⟩ : ByteArray).toList = [122] from strB_toList [122]]; rfl) ?_)
  refine brY rfl (brY rfl (ldAt H 1 rfl (-1 : Int) rfl (brY rfl (brY rfl (ldAt0 H 5 rfl (3 : Int) rfl (ldAt H 5 rfl (1 : Int) rfl (ldAt H 5 rfl s7 rfl ?_)))))))
  refine hard_Right_ok (H.rdo 6 rfl) (by decide) fun h12 e12 => ?_
  have H := H.ext' e12
  refine brY fx_right (hard_Records_ok (es := []) (RdS.nil _ _ _ _) (by decide) fun out bs h13 w hcp hbs e13 => ?_)
  have hon := rdn w.1
  have hb1 : bs.length = 1 := by
    have := congrArg List.length hbs
    rw [List.length_map] at this
    exact this
  rw [hon, hb1]
  exact hR _ (H.ext.trans (e13.mono H.ext.1))
/-! ## The laws -/
theorem rec_eq (a c : WRec) : eqL (eRS.cells a) (eRS.cells c) = true ↔ a = c := by
  simp only [eRS, eqL, eqB, strB_toList, Bool.and_true, Bool.and_eq_true, beq_iff_eq]
  cases a; cases c; simp
  intro _
  constructor
  · intro h; exact UInt8.toNat_inj.1 (by omega)
  · intro h; rw [h]
set_option maxRecDepth 100000 in
theorem law06_HardRecords_ok {s : KL [.bool, .int .i64, .int .i64, .int .i64, .sl]} {hB : Heap} {a : SvA} (w0 : s = (a.hard, a.term, a.vote, a.frm, a.s, ()) ∧ RdS hB 2 a.s (eEN.fl a.es) ∧ a.es.length ≤ 140737488351232) : C_law06_HardRecords s hB fun r h' => r = true ∧ Ext hB.size hB h' := by
  refine A_law06_HardRecords ?_
  unfold S_law06_HardRecords
  obtain ⟨rfl, A, hl⟩ := w0
  refine allocAt (At.start hB) fun h1 p1 H => law06_fixed_ok fun h2 e2 => brN rfl ?_
  have H := H.ext' e2
  refine ldAt0 H 0 rfl a.hard rfl (ldAt H 0 rfl a.term rfl (ldAt H 0 rfl a.vote rfl (ldAt H 0 rfl a.frm rfl (ldAt H 0 rfl a.s rfl ?_))))
  refine law06_few_ok (H.arg A) (by omega) fun w h3 e3 hw => ?_
  have H := H.ext' e3
  cases w with
  | false => exact brY rfl ⟨rfl, H.ext⟩
  | true =>
  obtain ⟨h12, h600⟩ := hw rfl
  refine brN rfl (ldAt0 H 0 rfl a.hard rfl (ldAt H 0 rfl a.term rfl (ldAt H 0 rfl a.vote rfl (ldAt H 0 rfl a.frm rfl (ldAt H 0 rfl a.s rfl (ldAt0 H 0 rfl a.hard rfl (ldAt H 0 rfl a.term rfl (ldAt H 0 rfl a.vote rfl (ldAt H 0 rfl a.frm rfl (ldAt H 0 rfl a.s rfl ?_))))))))))
  refine hard_Records_ok (H.arg A) (by omega) fun out bs h4 w4 hcp hbs e4 => ?_
  have H := H.newW e4 w4
  refine ⟨ldAt0 H 1 rfl a.hard rfl (ldAt H 1 rfl a.term rfl (ldAt H 1 rfl a.vote rfl (ldAt H 1 rfl a.frm rfl (ldAt H 1 rfl a.s rfl rfl)))), ?_⟩
  have hbl : bs.length ≤ 13 := by
    have := congrArg List.length hbs
    rw [List.length_map] at this
    have h2 := savR_len ⟨a.hard, a.term, a.vote, a.frm, a.es⟩
    simp only at h2
    omega
  refine law06_plain_ok (H.get 0 rfl) (by omega) fun r3 h5 o5 f5 e5 => ?_
  rw [hbs] at o5
  have H := H.new e5 (r := .own r3 2 (eRS.fl (savR ⟨a.hard, a.term, a.vote, a.frm, a.es⟩))) o5 f5
  refine ⟨ldAt0 H 2 rfl a.hard rfl (ldAt H 2 rfl a.term rfl (ldAt H 2 rfl a.vote rfl (ldAt H 2 rfl a.frm rfl (ldAt H 2 rfl a.s rfl rfl)))), ?_⟩
  refine ref06_Records_ok (H.arg A) (by omega) (fun e he => by have := h600 e he; omega) fun r4 h6 o6 f6 e6 => ?_
  have H := H.new e6 (r := .own r4 2 (eRS.fl (savR ⟨a.hard, a.term, a.vote, a.frm, a.es⟩))) o6 f6
  have hrl : (savR ⟨a.hard, a.term, a.vote, a.frm, a.es⟩).length ≤ 13 := by rw [← hbs, List.length_map]; exact hbl
  generalize savR ⟨a.hard, a.term, a.vote, a.frm, a.es⟩ = rs at *
  have n3 := H.n (E := eRS) 1 rfl
  have n4 := H.n (E := eRS) 0 rfl
  refine brN (by rw [bne_eq_false_iff_eq]; omega) ?_
  refine loop1 (s1 := .one (.int .i64)) (fun (x : Int) h7 => h7 = h6 ∧ ∃ k : Nat, x = k ∧ k ≤ rs.length) (fun (x : Int) _ => (rs.length - x).toNat) ⟨rfl, 0, rfl, Nat.zero_le _⟩ fun _ (x : Int) h7 hI => ?_
  obtain ⟨rfl, k, rfl, hk⟩ := hI
  refine brD (fun hc => ?_) fun hc => ⟨rfl, H.ext⟩
  have hk2 : k < rs.length := by omega
  refine ixAt (E := eRS) H 1 rfl k rfl hk2 fun e he => ldEl0 (E := eRS) H 1 rfl he hk2 ((rs[k].kind.toNat : Nat) : Int) rfl (ldEl (E := eRS) H 1 rfl he hk2 (strB rs[k].data) rfl ?_)
  refine ixAt (E := eRS) H 0 rfl k rfl hk2 fun e he => ldEl0 (E := eRS) H 0 rfl he hk2 ((rs[k].kind.toNat : Nat) : Int) rfl (ldEl (E := eRS) H 0 rfl he hk2 (strB rs[k].data) rfl ?_)
  refine opNeq (us := eRS.cells rs[k]) (vs := eRS.cells rs[k]) (by kernel_rfl) (brN (by rw [(rec_eq _ _).2 rfl]; rfl) ?_)
  rw [w64 (by omega) (by omega)]
  exact ⟨⟨rfl, k + 1, by omega, by omega⟩, by omega⟩
end
end Go.Proofs.Ytnognoiaakiepaa
