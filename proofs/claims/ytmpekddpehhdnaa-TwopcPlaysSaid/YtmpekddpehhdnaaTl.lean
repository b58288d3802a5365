/-
  Layer 34 (twopc): an act; what the document fixes; TwopcAtomic, TwopcEnds and TwopcWilling over the heap alone.
-/
import Derived.Test.YtmpekddpehhdnaaTp
import Derived.Test.YtmpekddpehhdnaaSTL
import Derived.Test.YtmpekddpehhdnaaH
namespace Go.Proofs.Ytmpekddpehhdnaa
open Go

structure TAct where
  kind : Int
  n : Int
def eTAct : Enc TAct 2 := ⟨fun a => [.int .u8 a.kind, .int .i64 a.n], fun _ => rfl, by decide, fun x u hu => by
  simp only [List.mem_cons, List.not_mem_nil, or_false] at hu
  rcases hu with rfl | rfl <;> rfl⟩
def eNum : Enc Int 1 := ⟨fun a => [.int .i64 a], fun _ => rfl, by decide, fun x u hu => by
  simp only [List.mem_cons, List.not_mem_nil, or_false] at hu
  rcases hu with rfl; rfl⟩
theorem TNum : ElemT Try.prog 53 3 1 8 := .of (by kernel_rfl)
theorem ZNum : ZeroT Try.prog 3 [.int .i64 0] := ⟨by kernel_rfl⟩
theorem Enc.fl_rep {α : Type} {sz : Nat} (E : Enc α sz) (n : Nat) (x : α) : E.fl (List.replicate n x) = (List.replicate n (E.cells x)).flatten := by
  simp [Enc.fl, List.flatMap_def]
theorem mkAt {α : Type} {sz : Nat} {E : Enc α sz} {t e : TypeId} {by_ : Nat} {zs : List Value} {h0 h : Heap} {L : List Res} {K : Sl → Heap → Prop} (x : α) (hT : ElemT Try.prog t e sz by_) (hz : ZeroT Try.prog e zs) (hx : E.cells x = zs) (H : At h0 h L) {m : Int} (n : Nat) (hm : m = (n : Int)) (hb : by_ * n ≤ 281474976710656) (h63 : n ≤ 9223372036854775807)
    (hK : ∀ s h', At h0 h' (.own s sz (E.fl (List.replicate n x)) :: L) → K s h') : Mk Try.prog t m m h K := by
  refine mk hT hz n n hm hm (Nat.le_refl _) hb h63 fun h' b' e' z' => hK _ h' (H.new e' ?_ fun g hg => ?_)
  · rw [← hx, ← E.fl_rep] at b'
    exact Own.full b' (by rw [E.fl_len, List.length_replicate]) h63
  · have hg : some h.size = some g := hg
    injection hg with hg
    omega
section
variable {h0 h : Heap} {F : List Res} {d : Nat} {ty : TypeId} {s1 s2 : Sl} {D : TD} {N : Nat}
theorem law34_do_ok {kd n : Int} {R : Int → Heap → Prop} (H : At h0 h (dealL d ty s1 s2 D ++ F)) (ho : TOk N D) (hN : N + 1 ≤ 1000000) (hk : 0 ≤ kd)
    (hR : ∀ h' s2', At h0 h' (dealL d ty s1 s2' (tActM D kd n).1 ++ F) → R (tActM D kd n).2 h') : C_law34_do (some ⟨d, 0, none⟩) (kd, n, ()) h R := by
  refine A_law34_do ?_
  unfold S_law34_do
  repeat (first | with_reducible refine nn ?_ | with_reducible refine let_ ?_ | with_reducible refine brSome ?_ | with_reducible refine brF ?_ | with_reducible refine brT ?_ | ((with_reducible apply ldAt H 0); exact rfl; exact rfl) | ((with_reducible apply ldAt0 H 0); exact rfl; exact rfl) | ((with_reducible apply stAt H 0); exact rfl; exact rfl; intro h H) | ((with_reducible apply stAt0 H 0); exact rfl; exact rfl; intro h H) | ((with_reducible apply allocAt H); intro h b H) | ((with_reducible refine ⟨?_, ?_⟩); first | ((with_reducible apply ldAt H 0); exact rfl; exact rfl; exact rfl) | ((with_reducible apply ldAt0 H 0); exact rfl; exact rfl; exact rfl)))
  refine nz (by decide) ?_
  rw [rem_nonneg hk]
  have H := H.mv 1 3
  have tmp : ∀ {h' : Heap} {D' : TD} {s2' : Sl} {r : Res}, At h0 h' (dealL d ty s1 s2' D' ++ (r :: F)) → At h0 h' (dealL d ty s1 s2' D' ++ F) := fun H => (H.mv 3 1).tail
  unfold tActM at hR
  refine br beq_iff_eq (fun hc => ?_) fun hc => ?_
  · rw [if_pos hc] at hR
    exact twopc_Begin_ok (F := _ :: F) H ho hN fun h' s2' H => hR _ _ (tmp H)
  rw [if_neg hc] at hR
  refine br beq_iff_eq (fun hc => ?_) fun hc => ?_
  · rw [if_pos hc] at hR
    exact twopc_GiveUp_ok (F := _ :: F) H ho hN fun h' s2' H => hR _ _ (tmp H)
  rw [if_neg hc] at hR
  refine br beq_iff_eq (fun hc => ?_) fun hc => ?_
  · rw [if_pos hc] at hR
    repeat (first | with_reducible refine nn ?_ | with_reducible refine let_ ?_ | with_reducible refine brSome ?_ | with_reducible refine brF ?_ | with_reducible refine brT ?_ | ((with_reducible apply ldAt H 0); exact rfl; exact rfl) | ((with_reducible apply ldAt0 H 0); exact rfl; exact rfl) | ((with_reducible apply ldAt H 1); exact rfl; exact rfl) | ((with_reducible apply ldAt0 H 1); exact rfl; exact rfl) | ((with_reducible apply ldAt H 2); exact rfl; exact rfl) | ((with_reducible apply ldAt0 H 2); exact rfl; exact rfl) | ((with_reducible apply ldAt H 3); exact rfl; exact rfl) | ((with_reducible apply ldAt0 H 3); exact rfl; exact rfl) | ((with_reducible apply stAt H 0); exact rfl; exact rfl; intro h H) | ((with_reducible apply stAt0 H 0); exact rfl; exact rfl; intro h H) | ((with_reducible apply stAt H 1); exact rfl; exact rfl; intro h H) | ((with_reducible apply stAt0 H 1); exact rfl; exact rfl; intro h H) | ((with_reducible apply stAt H 2); exact rfl; exact rfl; intro h H) | ((with_reducible apply stAt0 H 2); exact rfl; exact rfl; intro h H) | ((with_reducible apply stAt H 3); exact rfl; exact rfl; intro h H) | ((with_reducible apply stAt0 H 3); exact rfl; exact rfl; intro h H) | ((with_reducible apply allocAt H); intro h b H) | ((with_reducible refine ⟨?_, ?_⟩); first | ((with_reducible apply ldAt H 0); exact rfl; exact rfl; exact rfl) | ((with_reducible apply ldAt0 H 0); exact rfl; exact rfl; exact rfl) | ((with_reducible apply ldAt H 1); exact rfl; exact rfl; exact rfl) | ((with_reducible apply ldAt0 H 1); exact rfl; exact rfl; exact rfl) | ((with_reducible apply ldAt H 2); exact rfl; exact rfl; exact rfl) | ((with_reducible apply ldAt0 H 2); exact rfl; exact rfl; exact rfl) | ((with_reducible apply ldAt H 3); exact rfl; exact rfl; exact rfl) | ((with_reducible apply ldAt0 H 3); exact rfl; exact rfl; exact rfl)))
    refine twopc_Drop_ok (F := _ :: F) H ho (fun hb => ?_) fun k hi hk h2 s2' H2 => ?_
    · rw [onM_bad hb] at hR; exact hR _ s2 (tmp H)
    · subst hi; rw [onM_ok hk] at hR; exact hR _ s2' (tmp H2)
  rw [if_neg hc] at hR
  refine br beq_iff_eq (fun hc => ?_) fun hc => ?_
  · rw [if_pos hc] at hR
    repeat (first | with_reducible refine nn ?_ | with_reducible refine let_ ?_ | with_reducible refine brSome ?_ | with_reducible refine brF ?_ | with_reducible refine brT ?_ | ((with_reducible apply ldAt H 0); exact rfl; exact rfl) | ((with_reducible apply ldAt0 H 0); exact rfl; exact rfl) | ((with_reducible apply ldAt H 1); exact rfl; exact rfl) | ((with_reducible apply ldAt0 H 1); exact rfl; exact rfl) | ((with_reducible apply ldAt H 2); exact rfl; exact rfl) | ((with_reducible apply ldAt0 H 2); exact rfl; exact rfl) | ((with_reducible apply ldAt H 3); exact rfl; exact rfl) | ((with_reducible apply ldAt0 H 3); exact rfl; exact rfl) | ((with_reducible apply stAt H 0); exact rfl; exact rfl; intro h H) | ((with_reducible apply stAt0 H 0); exact rfl; exact rfl; intro h H) | ((with_reducible apply stAt H 1); exact rfl; exact rfl; intro h H) | ((with_reducible apply stAt0 H 1); exact rfl; exact rfl; intro h H) | ((with_reducible apply stAt H 2); exact rfl; exact rfl; intro h H) | ((with_reducible apply stAt0 H 2); exact rfl; exact rfl; intro h H) | ((with_reducible apply stAt H 3); exact rfl; exact rfl; intro h H) | ((with_reducible apply stAt0 H 3); exact rfl; exact rfl; intro h H) | ((with_reducible apply allocAt H); intro h b H) | ((with_reducible refine ⟨?_, ?_⟩); first | ((with_reducible apply ldAt H 0); exact rfl; exact rfl; exact rfl) | ((with_reducible apply ldAt0 H 0); exact rfl; exact rfl; exact rfl) | ((with_reducible apply ldAt H 1); exact rfl; exact rfl; exact rfl) | ((with_reducible apply ldAt0 H 1); exact rfl; exact rfl; exact rfl) | ((with_reducible apply ldAt H 2); exact rfl; exact rfl; exact rfl) | ((with_reducible apply ldAt0 H 2); exact rfl; exact rfl; exact rfl) | ((with_reducible apply ldAt H 3); exact rfl; exact rfl; exact rfl) | ((with_reducible apply ldAt0 H 3); exact rfl; exact rfl; exact rfl)))
    refine twopc_Double_ok (F := _ :: F) H ho (fun hb => ?_) fun k hi hk h2 s2' H2 => ?_
    · rw [onM_bad hb] at hR; exact hR _ s2 (tmp H)
    · subst hi; rw [onM_ok hk] at hR; exact hR _ s2' (tmp H2)
  rw [if_neg hc] at hR
  refine br beq_iff_eq (fun hc => ?_) fun hc => ?_
  · rw [if_pos hc] at hR
    repeat (first | with_reducible refine nn ?_ | with_reducible refine let_ ?_ | with_reducible refine brSome ?_ | with_reducible refine brF ?_ | with_reducible refine brT ?_ | ((with_reducible apply ldAt H 0); exact rfl; exact rfl) | ((with_reducible apply ldAt0 H 0); exact rfl; exact rfl) | ((with_reducible apply ldAt H 1); exact rfl; exact rfl) | ((with_reducible apply ldAt0 H 1); exact rfl; exact rfl) | ((with_reducible apply ldAt H 2); exact rfl; exact rfl) | ((with_reducible apply ldAt0 H 2); exact rfl; exact rfl) | ((with_reducible apply ldAt H 3); exact rfl; exact rfl) | ((with_reducible apply ldAt0 H 3); exact rfl; exact rfl) | ((with_reducible apply stAt H 0); exact rfl; exact rfl; intro h H) | ((with_reducible apply stAt0 H 0); exact rfl; exact rfl; intro h H) | ((with_reducible apply stAt H 1); exact rfl; exact rfl; intro h H) | ((with_reducible apply stAt0 H 1); exact rfl; exact rfl; intro h H) | ((with_reducible apply stAt H 2); exact rfl; exact rfl; intro h H) | ((with_reducible apply stAt0 H 2); exact rfl; exact rfl; intro h H) | ((with_reducible apply stAt H 3); exact rfl; exact rfl; intro h H) | ((with_reducible apply stAt0 H 3); exact rfl; exact rfl; intro h H) | ((with_reducible apply allocAt H); intro h b H) | ((with_reducible refine ⟨?_, ?_⟩); first | ((with_reducible apply ldAt H 0); exact rfl; exact rfl; exact rfl) | ((with_reducible apply ldAt0 H 0); exact rfl; exact rfl; exact rfl) | ((with_reducible apply ldAt H 1); exact rfl; exact rfl; exact rfl) | ((with_reducible apply ldAt0 H 1); exact rfl; exact rfl; exact rfl) | ((with_reducible apply ldAt H 2); exact rfl; exact rfl; exact rfl) | ((with_reducible apply ldAt0 H 2); exact rfl; exact rfl; exact rfl) | ((with_reducible apply ldAt H 3); exact rfl; exact rfl; exact rfl) | ((with_reducible apply ldAt0 H 3); exact rfl; exact rfl; exact rfl)))
    exact twopc_Crash_ok (F := _ :: F) H fun h' H => hR _ _ (tmp H)
  rw [if_neg hc] at hR
  refine br beq_iff_eq (fun hc => ?_) fun hc => ?_
  · rw [if_pos hc] at hR
    repeat (first | with_reducible refine nn ?_ | with_reducible refine let_ ?_ | with_reducible refine brSome ?_ | with_reducible refine brF ?_ | with_reducible refine brT ?_ | ((with_reducible apply ldAt H 0); exact rfl; exact rfl) | ((with_reducible apply ldAt0 H 0); exact rfl; exact rfl) | ((with_reducible apply ldAt H 1); exact rfl; exact rfl) | ((with_reducible apply ldAt0 H 1); exact rfl; exact rfl) | ((with_reducible apply ldAt H 2); exact rfl; exact rfl) | ((with_reducible apply ldAt0 H 2); exact rfl; exact rfl) | ((with_reducible apply ldAt H 3); exact rfl; exact rfl) | ((with_reducible apply ldAt0 H 3); exact rfl; exact rfl) | ((with_reducible apply stAt H 0); exact rfl; exact rfl; intro h H) | ((with_reducible apply stAt0 H 0); exact rfl; exact rfl; intro h H) | ((with_reducible apply stAt H 1); exact rfl; exact rfl; intro h H) | ((with_reducible apply stAt0 H 1); exact rfl; exact rfl; intro h H) | ((with_reducible apply stAt H 2); exact rfl; exact rfl; intro h H) | ((with_reducible apply stAt0 H 2); exact rfl; exact rfl; intro h H) | ((with_reducible apply stAt H 3); exact rfl; exact rfl; intro h H) | ((with_reducible apply stAt0 H 3); exact rfl; exact rfl; intro h H) | ((with_reducible apply allocAt H); intro h b H) | ((with_reducible refine ⟨?_, ?_⟩); first | ((with_reducible apply ldAt H 0); exact rfl; exact rfl; exact rfl) | ((with_reducible apply ldAt0 H 0); exact rfl; exact rfl; exact rfl) | ((with_reducible apply ldAt H 1); exact rfl; exact rfl; exact rfl) | ((with_reducible apply ldAt0 H 1); exact rfl; exact rfl; exact rfl) | ((with_reducible apply ldAt H 2); exact rfl; exact rfl; exact rfl) | ((with_reducible apply ldAt0 H 2); exact rfl; exact rfl; exact rfl) | ((with_reducible apply ldAt H 3); exact rfl; exact rfl; exact rfl) | ((with_reducible apply ldAt0 H 3); exact rfl; exact rfl; exact rfl)))
    exact twopc_Start_ok (F := _ :: F) H fun h' H => hR _ _ (tmp H)
  rw [if_neg hc] at hR
  repeat (first | with_reducible refine nn ?_ | with_reducible refine let_ ?_ | with_reducible refine brSome ?_ | with_reducible refine brF ?_ | with_reducible refine brT ?_ | ((with_reducible apply ldAt H 0); exact rfl; exact rfl) | ((with_reducible apply ldAt0 H 0); exact rfl; exact rfl) | ((with_reducible apply ldAt H 1); exact rfl; exact rfl) | ((with_reducible apply ldAt0 H 1); exact rfl; exact rfl) | ((with_reducible apply ldAt H 2); exact rfl; exact rfl) | ((with_reducible apply ldAt0 H 2); exact rfl; exact rfl) | ((with_reducible apply ldAt H 3); exact rfl; exact rfl) | ((with_reducible apply ldAt0 H 3); exact rfl; exact rfl) | ((with_reducible apply stAt H 0); exact rfl; exact rfl; intro h H) | ((with_reducible apply stAt0 H 0); exact rfl; exact rfl; intro h H) | ((with_reducible apply stAt H 1); exact rfl; exact rfl; intro h H) | ((with_reducible apply stAt0 H 1); exact rfl; exact rfl; intro h H) | ((with_reducible apply stAt H 2); exact rfl; exact rfl; intro h H) | ((with_reducible apply stAt0 H 2); exact rfl; exact rfl; intro h H) | ((with_reducible apply stAt H 3); exact rfl; exact rfl; intro h H) | ((with_reducible apply stAt0 H 3); exact rfl; exact rfl; intro h H) | ((with_reducible apply allocAt H); intro h b H) | ((with_reducible refine ⟨?_, ?_⟩); first | ((with_reducible apply ldAt H 0); exact rfl; exact rfl; exact rfl) | ((with_reducible apply ldAt0 H 0); exact rfl; exact rfl; exact rfl) | ((with_reducible apply ldAt H 1); exact rfl; exact rfl; exact rfl) | ((with_reducible apply ldAt0 H 1); exact rfl; exact rfl; exact rfl) | ((with_reducible apply ldAt H 2); exact rfl; exact rfl; exact rfl) | ((with_reducible apply ldAt0 H 2); exact rfl; exact rfl; exact rfl) | ((with_reducible apply ldAt H 3); exact rfl; exact rfl; exact rfl) | ((with_reducible apply ldAt0 H 3); exact rfl; exact rfl; exact rfl)))
  refine twopc_Deliver_ok (F := _ :: F) H ho hN (fun hb => ?_) fun k hi hk h2 s2' H2 => ?_
  · rw [onM_bad hb] at hR; exact hR _ s2 (tmp H)
  · subst hi; rw [onM_ok hk] at hR; exact hR _ s2' (tmp H2)
end
/-! ## A new one -/
theorem tnew_len (ws : List Bool) : (tNewM ws).l.length = ws.length := List.length_map _
theorem tnew_pt {ws : List Bool} {i : Nat} (hi : i < (tNewM ws).l.length) : (tNewM ws).pt i = ⟨0, false, ws[i]'(by rw [tnew_len] at hi; exact hi)⟩ := by
  rw [pt_get hi]
  exact List.getElem_map (fun w => (⟨0, false, w⟩ : TPart)) (l := ws) (h := hi)
theorem tnew_ok {ws : List Bool} (h1 : 1 ≤ ws.length) (h7 : ws.length ≤ 7) : TOk 0 (tNewM ws) :=
  ⟨by rw [tnew_len]; exact ⟨h1, h7⟩, (fun m hm => by cases hm), Nat.pow_pos (by decide), Nat.pow_pos (by decide), Nat.le_refl _, by decide⟩
theorem tnew_inv {ws : List Bool} (h1 : 1 ≤ ws.length) : TInv (tNewM ws) ∧ TOpen (tNewM ws) := by
  refine ⟨⟨.inl rfl, fun i hi => by rw [tnew_pt hi]; show (0 : Int) ≤ 0 ∧ (0 : Int) ≤ 3; decide, (fun i hi => by cases hi), (fun i hi => by cases hi), fun i hi hs => by rw [tnew_pt hi] at hs; exact absurd hs (by show ¬ (0 : Int) = 2; decide),
    fun i hi hs => by rw [tnew_pt hi] at hs; exact absurd hs (by show ¬ ((0 : Int) = 1 ∨ (0 : Int) = 2); decide), fun hb => absurd hb (by show ¬ (0 : Int) = 2; decide), fun i hi hy => ?_, fun i hi hy => ?_⟩, fun _ => ?_⟩
  · rcases hy with hy | hy
    · cases hy
    · exact absurd hy (by show ¬ (0 : Nat).testBit i = true; simp)
  · rcases hy with hy | hy
    · cases hy
    · exact absurd hy (by show ¬ (0 : Nat).testBit i = true; simp)
  · cases hb : fullB (tNewM ws).l.length (tNewM ws).votes with
    | false => rfl
    | true =>
      have h := fullB_iff.1 hb 0 (by rw [tnew_len]; exact h1)
      exact absurd h (by show ¬ (0 : Nat).testBit 0 = true; simp)
theorem tnew_will (ws : List Bool) : (tNewM ws).l.map (·.willing) = ws := by
  show (ws.map fun w => (⟨0, false, w⟩ : TPart)).map _ = ws
  rw [List.map_map]
  exact List.map_id _
/-! ## fixed -/
def fx1 : TD := ⟨0, false, [⟨0, false, true⟩, ⟨0, false, true⟩], 0, 0, [⟨1, 0⟩, ⟨1, 1⟩]⟩
def fx2 : TD := ⟨2, false, [⟨2, false, true⟩, ⟨2, false, true⟩], 3, 3, []⟩
def gx1 : TD := ⟨0, false, [⟨0, false, true⟩, ⟨0, false, false⟩], 0, 0, [⟨1, 0⟩, ⟨1, 1⟩]⟩
def gx2 : TD := ⟨3, false, [⟨3, false, true⟩, ⟨3, false, false⟩], 1, 3, []⟩
def gx3 : TD := ⟨3, true, [⟨3, false, true⟩, ⟨3, false, false⟩], 0, 0, []⟩
def gx4 : TD := ⟨3, false, [⟨3, false, true⟩, ⟨3, false, false⟩], 0, 0, []⟩
theorem twopc_Begin_nil {h : Heap} {R : Int → Heap → Prop} (hR : R 1 h) : C_twopc_Deal_Begin none h R := A_twopc_Deal_Begin hR
theorem twopc_State_nil {h : Heap} {R : Int → Heap → Prop} (hR : R 0 h) : C_twopc_Deal_State none 0 h R := A_twopc_Deal_State (A_twopc_Deal_find hR)
set_option maxRecDepth 100000 in
set_option maxHeartbeats 1600000 in
theorem law34_fixed_ok {h : Heap} {R : Bool → Heap → Prop} (hR : ∀ h', Ext h.size h h' → R true h') : C_law34_fixed h R := by
  refine A_law34_fixed ?_
  unfold S_law34_fixed
  refine alloc (cs := [.bool true, .bool true]) fun h1 b1 e1 z1 => ?_
  have W1 : RdS h1 1 ⟨some ⟨h.size, 0, none⟩, 2, 2⟩ (eBool.fl [true, true]) := (Own.full b1 (sz := 1) (n := 2) rfl (by decide)).rd
  refine twopc_New_ok W1 (fun hb => absurd hb (by decide)) fun _ _ h2 d ty s1 H => ?_
  have o0 := tnew_ok (ws := [true, true]) (by decide) (by decide)
  refine twopc_Begin_ok H o0 (by decide) fun h3 s2 H => ?_
  have o1 : TOk 1 (beginM (tNewM [true, true])).1 := o0.act 0 0 (by decide)
  have q1 : beginM (tNewM [true, true]) = (fx1, 0) := by kernel_rfl
  rw [q1] at H o1 ⊢
  refine twopc_Flight_ok H (by decide) fun r h4 H => ?_
  refine twopc_Settle_ok (most := 100) (F := [_]) (H.mv 1 3) o1 (by decide) fun h5 s3 H o2 => ?_
  have q2 : settleM 100 fx1 = (fx2, 8) := by kernel_rfl
  rw [q2] at H o2 ⊢
  refine allocAt (cs := [.bool true, .bool false]) H fun h6 b H => ?_
  have W2 : RdS h6 1 ⟨some ⟨b, 0, none⟩, 2, 2⟩ (eBool.fl [true, false]) := (Own.full (H.get 0 rfl : Blk h6 b _ [.bool true, .bool false]) (sz := 1) (n := 2) rfl (by decide)).rd
  refine twopc_New_ok W2 (fun hb => absurd hb (by decide)) fun _ _ h7 d2 ty2 s5 H2 => ?_
  have H := H.join H2
  have p0 := tnew_ok (ws := [true, false]) (by decide) (by decide)
  refine twopc_Begin_ok (F := _ :: _) (H.mv 0 3) p0 (by decide) fun h8 s6 H => ?_
  have p1 : TOk 1 (beginM (tNewM [true, false])).1 := p0.act 0 0 (by decide)
  have q3 : beginM (tNewM [true, false]) = (gx1, 0) := by kernel_rfl
  rw [q3] at H p1
  refine twopc_Settle_ok (most := 100) H p1 (by decide) fun h9 s7 H p2 => ?_
  have q4 : settleM 100 gx1 = (gx2, 8) := by kernel_rfl
  rw [q4] at H p2
  refine twopc_GiveUp_ok H p2 (by decide) fun h10 s8 H => ?_
  have q5 : giveM gx2 = (gx2, 8) := by kernel_rfl
  rw [q5] at H ⊢
  refine twopc_Crash_ok H fun h11 H => ?_
  have q6 : onT gx2 (-1) (crashB gx2) (crashP gx2) = (gx3, 0) := by kernel_rfl
  have p3 : TOk 102 (tActM gx2 7 (-1)).1 := p2.act 7 (-1) (by decide)
  have q6' : tActM gx2 7 (-1) = (gx3, 0) := by kernel_rfl
  rw [q6'] at p3
  rw [q6] at H ⊢
  refine twopc_Begin_ok H p3 (by decide) fun h12 s9 H => ?_
  have q7 : beginM gx3 = (gx3, 12) := by kernel_rfl
  rw [q7] at H ⊢
  refine twopc_Start_ok H fun h13 H => ?_
  have q8 : onT gx3 (-1) (startB gx3) (startP gx3) = (gx4, 0) := by kernel_rfl
  rw [q8] at H ⊢
  refine brY rfl ?_
  have hrn : r.n = 2 := H.n 7 rfl
  refine brY (by rw [hrn]; rfl) ?_
  refine ixAt (E := eMsg) (l := fx1.fl) H 7 rfl 0 rfl (by decide) fun e he => ?_
  refine ldEl0 (E := eMsg) (l := fx1.fl) H 7 rfl he (by decide) (1 : Int) rfl (brY rfl ?_)
  refine ixAt (E := eMsg) (l := fx1.fl) H 7 rfl 1 rfl (by decide) fun e he => ?_
  refine ldEl (E := eMsg) (l := fx1.fl) (j := 1) H 7 rfl he (by decide) (1 : Int) rfl (brY rfl (brY rfl ?_))
  refine twopc_Settled_ok (F := _) (H.mv 4 3) (by decide) fun r1 h14 H hr => ?_
  refine brY (hr.2 ⟨by decide, fun i hi => by match i, hi with | 0, _ => rfl | 1, _ => rfl⟩) ?_
  refine twopc_State_ok H (fun hb => absurd hb (by decide)) (fun _ => brY rfl ?_) fun k hk => by omega
  refine twopc_State_ok H (fun hb => absurd hb (by decide)) (fun h => by omega) fun k hk hk2 => ?_
  obtain rfl : k = 1 := by omega
  refine brY rfl ?_
  refine twopc_Settled_ok (F := _) (H.mv 3 3) (by decide) fun r2 h15 H hr => ?_
  refine brY (hr.2 ⟨by decide, fun i hi => by match i, hi with | 0, _ => rfl | 1, _ => rfl⟩) ?_
  refine twopc_State_ok H (fun hb => absurd hb (by decide)) (fun h => by omega) fun k hk hk2 => ?_
  obtain rfl : k = 0 := by omega
  refine brY rfl (brY rfl (brY rfl (brY rfl (brY rfl ?_))))
  refine twopc_Up_ok H (fun hb => absurd hb (by decide)) (fun _ => brY rfl ?_) fun k hk => by omega
  refine twopc_Up_ok H (fun _ => brY rfl ?_) (fun h => by omega) fun k hk hk2 => ?_
  · refine twopc_Crash_ok H fun h16 H => ?_
    have q9 : onT gx4 2 (crashB gx4) (crashP gx4) = (gx4, 6) := by kernel_rfl
    rw [q9] at H ⊢
    refine brY rfl ?_
    refine twopc_New_ok (ws := []) (RdS.nil _ _ _ _) (fun _ => brY rfl ?_) fun hx => absurd hx (by decide)
    refine twopc_Begin_nil (brY rfl (twopc_State_nil ?_))
    exact hR _ (e1.trans (H.ext.mono (by omega)))
  · have : k < 2 := hk2
    omega
/-! ## TwopcAtomic -/
def stv (D : TD) (m : Nat) : Int := if m = 0 then D.bs else (D.pt (m - 1)).state
def wv (w : List Int) (m : Nat) : Int := w[m]?.getD 0
theorem wv_get {w : List Int} {m : Nat} (h : m < w.length) : wv w m = w[m] := by unfold wv; rw [List.getElem?_eq_getElem h]; rfl
theorem wv_set {w : List Int} {m j : Nat} {x : Int} (h : m < w.length) : wv (w.set m x) j = if j = m then x else wv w j := by
  unfold wv
  by_cases e : j = m
  · subst e; rw [if_pos rfl]; simp [h]
  · rw [if_neg e, List.getElem?_set_ne (fun x => e x.symm)]
theorem twopc_Stv_ok {h0 h : Heap} {F : List Res} {d : Nat} {ty : TypeId} {s1 s2 : Sl} {D : TD} {R : Int → Heap → Prop} (H : At h0 h (dealL d ty s1 s2 D ++ F)) (m : Nat) (hm : m ≤ D.l.length) (hR : R (stv D m) h) {i : Int} (hi : i = (m : Int) - 1) : C_twopc_Deal_State (some ⟨d, 0, none⟩) i h R := by
  refine twopc_State_ok H (fun hb => by omega) (fun hz => ?_) fun k hk hk2 => ?_
  · have : m = 0 := by omega
    rw [stv, if_pos this] at hR; exact hR
  · have : m = k + 1 := by omega
    subst this
    rw [stv, if_neg (by omega), Nat.add_sub_cancel, pt_get hk2] at hR
    exact hR
theorem stay_stv {D D' : TD} (h : Stay D D') (m : Nat) (hm : m ≤ D.l.length) (h2 : 2 ≤ stv D m) : stv D' m = stv D m := by
  unfold stv at h2 ⊢
  by_cases e : m = 0
  · rw [if_pos e] at h2 ⊢; rw [if_pos e]; exact h.bs h2
  · rw [if_neg e] at h2 ⊢; rw [if_neg e]; exact h.st _ (by omega) h2
theorem will_all {D : TD} {ws : List Bool} (hw : D.l.map (·.willing) = ws) : ws.all id = true ↔ ∀ i, i < D.l.length → (D.pt i).willing = true := by
  subst hw
  rw [List.all_eq_true]
  constructor
  · intro h i hi
    rw [pt_get hi]
    exact h _ (List.mem_map.2 ⟨_, List.getElem_mem hi, rfl⟩)
  · intro h x hx
    obtain ⟨y, hy, rfl⟩ := List.mem_map.1 hx
    obtain ⟨i, hi, rfl⟩ := List.getElem_of_mem hy
    have := h i hi
    rw [pt_get hi] at this
    exact this
theorem all_take_succ (ws : List Bool) (j : Nat) (hj : j < ws.length) : (ws.take (j + 1)).all id = ((ws.take j).all id && ws[j]) := by
  rw [take_snoc ws j hj, List.all_append]
  simp
set_option maxHeartbeats 1600000 in
theorem law34_TwopcAtomic_ok {willing l : Sl} {hB : Heap} {ws : List Bool} {acts : List TAct} (w0 : RdS hB 1 willing (eBool.fl ws)) (w1 : RdS hB 2 l (eTAct.fl acts) ∧ ∀ a ∈ acts, 0 ≤ a.kind ∧ a.kind ≤ 255) :
    C_law34_TwopcAtomic willing l hB fun r h' => r = true ∧ Ext hB.size hB h' := by
  refine A_law34_TwopcAtomic ?_
  unfold S_law34_TwopcAtomic
  obtain ⟨A, hk⟩ := w1
  have hn := rdn A
  have hwn := rdn w0
  refine law34_fixed_ok fun h1 e1 => brN rfl (brD (fun _ => ⟨rfl, e1⟩) fun hc => brD (fun _ => ⟨rfl, e1⟩) fun hc1 => brD (fun _ => ⟨rfl, e1⟩) fun hc2 => ?_)
  refine twopc_New_ok (w0.ext' e1) (fun hb => by omega) fun g1 g7 h2 d ty s1 H => ?_
  have H : At hB h2 (dealL d ty s1 ⟨none, 0, 0⟩ (tNewM ws) ++ [] ++ []) := (At.of_ext e1).join H
  refine loop2 (s1 := .one .bool) (s2 := .one (.int .i64)) (fun (al : Bool) (x : Int) h3 => ∃ (j : Nat), x = j ∧ j ≤ ws.length ∧ al = (ws.take j).all id ∧ At hB h3 (dealL d ty s1 ⟨none, 0, 0⟩ (tNewM ws) ++ [])) (fun _ (x : Int) _ => (ws.length - x).toNat)
    ⟨0, rfl, Nat.zero_le _, rfl, H⟩ fun _ (al : Bool) (x : Int) h3 hI => ?_
  obtain ⟨j, rfl, hj, hal, H⟩ := hI
  refine brD (fun hc3 => ?_) fun hc3 => ?_
  · have hj2 : j < ws.length := by omega
    refine ixR (H.arg w0) j rfl hj2 fun e he => ?_
    refine ldR0 (H.arg w0) he hj2 ws[j] rfl ?_
    rw [w64 (by omega) (by omega)]
    have hs := all_take_succ ws j hj2
    refine brB (fun ha => ?_) fun ha => ?_
    · exact ⟨⟨j + 1, by omega, by omega, by rw [hs, ← hal, ha]; rfl, H⟩, by omega⟩
    · exact ⟨⟨j + 1, by omega, by omega, by rw [hs, ← hal, ha]; rfl, H⟩, by omega⟩
  · have hjl : j = ws.length := by omega
    subst hjl
    rw [List.take_length] at hal
    rw [w64 (by omega) (by omega)]
    refine mkAt (E := eNum) 0 TNum ZNum rfl H (ws.length + 1) (by omega) (by omega) (by omega) fun s h4 H => ?_
    have inv0 := tnew_inv g1
    refine loop1 (s1 := .one (.int .i64)) (fun (x : Int) h5 => ∃ (j : Nat) (D : TD) (s2 : Sl) (w : List Int), x = j ∧ j ≤ acts.length ∧ At hB h5 (.own s 1 (eNum.fl w) :: (dealL d ty s1 s2 D ++ [])) ∧ TOk j D ∧ TInv D ∧ TOpen D ∧ D.l.map (·.willing) = ws ∧ w.length = ws.length + 1 ∧ ∀ m, m ≤ ws.length → 2 ≤ wv w m → stv D m = wv w m) (fun (x : Int) _ => (acts.length - x).toNat)
      ⟨0, tNewM ws, ⟨none, 0, 0⟩, List.replicate (ws.length + 1) 0, rfl, Nat.zero_le _, H, tnew_ok g1 g7, inv0.1, inv0.2, tnew_will ws, List.length_replicate, fun m hm h2 => ?_⟩ fun _ (x : Int) h5 hI => ?_
    · rw [wv_get (by rw [List.length_replicate]; omega), List.getElem_replicate] at h2
      exact absurd h2 (by decide)
    obtain ⟨j, D, s2, w, rfl, hj, H, ho, hi, hopn, hw, hwl, hwas⟩ := hI
    refine brD (fun hc4 => ?_) fun hc4 => ⟨rfl, H.ext⟩
    have hj2 : j < acts.length := by omega
    refine ixR (H.arg A) j rfl hj2 fun e he => ?_
    repeat (first | with_reducible refine nn ?_ | with_reducible refine let_ ?_ | with_reducible refine brSome ?_ | with_reducible refine brF ?_ | with_reducible refine brT ?_ | ((with_reducible apply ldAt H 0); exact rfl; exact rfl) | ((with_reducible apply ldAt0 H 0); exact rfl; exact rfl) | ((with_reducible apply ldR (H.arg A)); assumption; (case hk => assumption); exact rfl) | ((with_reducible apply ldR0 (H.arg A)); assumption; (case hk => assumption); exact rfl) | ((with_reducible apply stAt H 0); exact rfl; exact rfl; intro h H) | ((with_reducible apply stAt0 H 0); exact rfl; exact rfl; intro h H) | ((with_reducible apply allocAt H); intro h b H) | ((with_reducible refine ⟨?_, ?_⟩); first | ((with_reducible apply ldAt H 0); exact rfl; exact rfl; exact rfl) | ((with_reducible apply ldAt0 H 0); exact rfl; exact rfl; exact rfl)))
    have H := H.tail
    have hkd := (hk _ (List.getElem_mem hj2)).1
    refine law34_do_ok (F := [_]) (H.mv 1 3) ho (by omega) hkd fun h6 s2 H => ?_
    have hst := stay_act ho acts[j].kind acts[j].n
    have ho' := ho.act acts[j].kind acts[j].n (by omega)
    obtain ⟨hi', hopn'⟩ := hi.act hopn ho acts[j].kind acts[j].n
    have hDl : D.l.length = ws.length := by rw [← hw, List.length_map]
    generalize (tActM D acts[j].kind acts[j].n).1 = D' at *
    have hw' : D'.l.map (·.willing) = ws := by rw [hst.will]; exact hw
    have hDl' : D'.l.length = ws.length := by rw [← hw', List.length_map]
    have hwas' : ∀ m, m ≤ ws.length → 2 ≤ wv w m → stv D' m = wv w m := fun m hm h2 => by
      have := hwas m hm h2
      rw [stay_stv hst m (by omega) (by omega), this]
    refine let_ ?_
    refine loop3 (s1 := .one .bool) (s2 := .one .bool) (s3 := .one (.int .i64)) (fun (cm : Bool) (ab : Bool) (x : Int) h7 => ∃ (m : Nat) (w : List Int), x = (m : Int) - 1 ∧ m ≤ ws.length + 1 ∧ At hB h7 (dealL d ty s1 s2 D' ++ [.own s 1 (eNum.fl w)]) ∧ w.length = ws.length + 1 ∧ (cm = true → ∃ i, i < m ∧ stv D' i = 2) ∧ (ab = true → ∃ i, i < m ∧ stv D' i = 3) ∧ (∀ i, i < m → wv w i = stv D' i) ∧ ∀ i, m ≤ i → i ≤ ws.length → 2 ≤ wv w i → stv D' i = wv w i) (fun _ _ (x : Int) _ => (ws.length - x).toNat)
      ⟨0, w, by omega, Nat.zero_le _, H, hwl, (fun h => by cases h), (fun h => by cases h), (fun i hi => absurd hi (Nat.not_lt_zero _)), fun i _ => hwas' i⟩ fun _ (cm : Bool) (ab : Bool) (x : Int) h7 hI => ?_
    obtain ⟨m, w, rfl, hm, H, hwl, hcm, hab, hlo, hhi⟩ := hI
    refine brD (fun hc5 => ?_) fun hc5 => ?_
    · have hm2 : m ≤ ws.length := by omega
      refine twopc_Stv_ok H m (by omega) ?_ rfl
      have hmw : m < w.length := by omega
      refine join1 (s1 := .one .bool) (fun (c2 : Bool) h8 => h8 = h7 ∧ (c2 = true → ∃ i, i < m + 1 ∧ stv D' i = 2)) (fun _ (c2 : Bool) h8 hJ => ?_) ?_
      · obtain ⟨rfl, hc2'⟩ := hJ
        refine join1 (s1 := .one .bool) (fun (a2 : Bool) h9 => h9 = h8 ∧ (a2 = true → ∃ i, i < m + 1 ∧ stv D' i = 3)) (fun _ (a2 : Bool) h9 hJ => ?_) ?_
        · obtain ⟨rfl, ha2'⟩ := hJ
          rw [w64 (n := (m : Int) - 1 + 1) (by omega) (by omega)]
          have fin : ∀ {h : Heap}, At hB h (dealL d ty s1 s2 D' ++ [.own s 1 (eNum.fl (w.set m (stv D' m)))]) → ∃ (m_1 : Nat) (w : List Int), (m : Int) - 1 + 1 = (m_1 : Int) - 1 ∧ m_1 ≤ ws.length + 1 ∧ At hB h (dealL d ty s1 s2 D' ++ [.own s 1 (eNum.fl w)]) ∧ w.length = ws.length + 1 ∧ (c2 = true → ∃ i, i < m_1 ∧ stv D' i = 2) ∧ (a2 = true → ∃ i, i < m_1 ∧ stv D' i = 3) ∧ (∀ i, i < m_1 → wv w i = stv D' i) ∧ ∀ i, m_1 ≤ i → i ≤ ws.length → 2 ≤ wv w i → stv D' i = wv w i := fun H => by
            refine ⟨m + 1, _, by omega, by omega, H, by rw [List.length_set]; exact hwl, hc2', ha2', fun i hi => ?_, fun i h1 h2 => ?_⟩
            · rw [wv_set hmw]
              split
              · rename_i e; rw [e]
              · exact hlo i (by omega)
            · rw [wv_set hmw, if_neg (by omega)]
              exact hhi i (by omega) h2
          refine ixAt H 3 rfl m (by omega) hmw fun e he => ?_
          refine ldEl0 H 3 rfl he hmw w[m] rfl ?_
          refine brD (fun h2 => ?_) fun h2 => ?_
          · refine ixAt H 3 rfl m (by omega) hmw fun e he => ?_
            refine ldEl0 H 3 rfl he hmw w[m] rfl ?_
            have hh := hhi m (Nat.le_refl _) hm2 (by rw [wv_get hmw]; exact h2)
            rw [wv_get hmw] at hh
            refine brN (by rw [hh]; simp) ?_
            refine ixAt H 3 rfl m (by omega) hmw fun e he => ?_
            refine stEl0 (E := eNum) (stv D' m) H 3 rfl he hmw rfl fun h H => ?_
            exact let_ ⟨fin H, by omega⟩
          · refine ixAt H 3 rfl m (by omega) hmw fun e he => ?_
            refine stEl0 (E := eNum) (stv D' m) H 3 rfl he hmw rfl fun h H => ?_
            exact let_ ⟨fin H, by omega⟩
        · refine brB (fun ha => ⟨rfl, fun _ => ?_⟩) fun ha => let_ ⟨rfl, fun hx => ⟨m, by omega, by simpa using hx⟩⟩
          obtain ⟨i, hi, hs⟩ := hab ha
          exact ⟨i, by omega, hs⟩
      · refine brB (fun ha => ⟨rfl, fun _ => ?_⟩) fun ha => let_ ⟨rfl, fun hx => ⟨m, by omega, by simpa using hx⟩⟩
        obtain ⟨i, hi, hs⟩ := hcm ha
        exact ⟨i, by omega, hs⟩
    · have hm3 : m = ws.length + 1 := by omega
      rw [w64 (n := (j : Int) + 1) (by omega) (by omega)]
      have fin : (∃ (j_1 : Nat) (D : TD) (s2 : Sl) (w : List Int), (j : Int) + 1 = j_1 ∧ j_1 ≤ acts.length ∧ At hB h7 (.own s 1 (eNum.fl w) :: (dealL d ty s1 s2 D ++ [])) ∧ TOk j_1 D ∧ TInv D ∧ TOpen D ∧ D.l.map (·.willing) = ws ∧ w.length = ws.length + 1 ∧ ∀ m, m ≤ ws.length → 2 ≤ wv w m → stv D m = wv w m) ∧ ((acts.length : Int) - ((j : Int) + 1)).toNat < ((acts.length : Int) - (j : Int)).toNat :=
        ⟨⟨j + 1, D', s2, w, by omega, by omega, H.mv 3 1, ho', hi', hopn', hw', hwl, fun i hi _ => (hlo i (by omega)).symm⟩, by omega⟩
      refine brB (fun ha => ?_) fun ha => fin
      obtain ⟨i, hi0, hs⟩ := hcm ha
      have hat := hi'.atomic (by
        unfold stv at hs
        by_cases e : i = 0
        · rw [if_pos e] at hs; exact .inl hs
        · rw [if_neg e] at hs; exact .inr ⟨i - 1, by omega, hs⟩)
      refine brB (fun hb => ?_) fun hb => ?_
      · exfalso
        obtain ⟨i, hi0, hs⟩ := hab hb
        unfold stv at hs
        by_cases e : i = 0
        · rw [if_pos e] at hs; omega
        · rw [if_neg e] at hs; exact (hat.2 (i - 1) (by omega)).1 hs
      · refine brNot (fun hc => ?_) fun _ => fin
        have := (will_all hw').2 fun i hi => (hat.2 i hi).2
        rw [hal, this] at hc
        cases hc
end Go.Proofs.Ytmpekddpehhdnaa
