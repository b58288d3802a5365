/-
  Layer 18 (wire): packets; what the document fixes; the laws WirePackets, WireMessages over the heap alone.
-/
import Derived.Test.YtnognoiaakiepaaXd
import Derived.Test.YtnognoiaakiepaaF3
import Derived.Test.YtnognoiaakiepaaSXL
import Derived.Test.YtnognoiaakiepaaH
import Derived.Test.YtnognoiaakiepaaD1
namespace Go.Proofs.Ytnognoiaakiepaa
open Go

/-- What bytes tell as a packet: its kind, its payload, or why not. -/
def pktM (l : List UInt8) : Int × List UInt8 × Int :=
  if (wholeM l).2 ≠ 0 then (0, [], (wholeM l).2) else match (wholeM l).1 with
    | [] => (0, [], 2)
    | k :: d => (((k.toNat : Nat) : Int), d, 0)
theorem wholeM_frame {p : List UInt8} (h : p.length ≤ 4096) : wholeM (frameM p) = (p, 0) := by
  have e := takeM_frame p [] h
  rw [List.append_nil] at e
  have hl := frameM_length p
  unfold wholeM
  rw [e]
  rw [if_neg (by simp only; omega)]
theorem pktM_frame {k : UInt8} {d : List UInt8} (h : d.length ≤ 4095) : pktM (frameM (k :: d)) = (((k.toNat : Nat) : Int), d, 0) := by
  unfold pktM
  rw [wholeM_frame (by simp; omega)]
  simp
theorem pktM_bad {l : List UInt8} (h : (takeM l).2.2 ≠ 0) : (pktM l).2.2 ≠ 0 := by
  have e : (wholeM l).2 ≠ 0 := by
    unfold wholeM
    rw [if_neg (fun x => h x.1)]
    exact h
  unfold pktM
  rw [if_pos e]
  exact e
section
variable {h0 hB h : Heap} {L F : List Res} {b s sl : Sl} {xs l : List UInt8} {es : List Ent}
theorem wire_ReadPacket_ok {R : Int → Sl → Int → Heap → Prop} (hb : RdS hB 1 b (cB l)) (hbc : b.n ≤ b.c) (hl : l.length ≤ 1000000000000)
    (hR : ∀ s h', Own h' 1 s (cB (pktM l).2.1) → s.from_ hB.size → Ext hB.size hB h' → R (pktM l).1 s (pktM l).2.2 h') : C_wire_ReadPacket b hB R := by
  refine A_wire_ReadPacket ?_
  unfold S_wire_ReadPacket
  refine frame_Whole_ok hb hbc hl fun r h1 o1 f1 e1 => ?_
  have hn := rd_b o1.rd
  have nilO : ∀ h', Own h' 1 ⟨none, 0, 0⟩ (cB []) := fun h' => Own.nil _ _
  have nilF : (⟨none, 0, 0⟩ : Sl).from_ hB.size := fun g hg => by simp [Sl.blk] at hg
  unfold pktM at hR
  refine brB (fun hb => ?_) fun hb => ?_
  · rw [if_pos (by simpa using hb)] at hR
    exact hR _ h1 (nilO _) nilF e1
  · rw [if_neg (by simpa using hb)] at hR
    cases hp : (wholeM l).1 with
    | nil =>
      rw [hp] at hR hn
      exact brY (by rw [hn]; rfl) (hR _ h1 (nilO _) nilF e1)
    | cons k d =>
      rw [hp] at hR hn o1
      simp only [List.length_cons] at hn
      refine brN (by rw [beq_eq_false_iff_ne]; omega) (ixcB o1.rd 0 rfl (by simp) ?_)
      have hc := o1.2.1
      refine cutBO o1 1 r.n r.c (loi rfl) (hi0 _) (.inl ⟨rfl, rfl⟩) (by omega) (by simp; omega) hc (Nat.le_refl _) fun s2 o2 n2 c2 b2 => ?_
      have e : ((k :: d).drop 1).take (r.n - 1) = d := by rw [hn]; simp
      rw [e] at o2
      exact hR s2 h1 o2 (fun g hg => f1 g (by rw [← b2]; exact hg)) e1
theorem ref18_ReadPacket_ok {R : Int → ByteArray → Int → Heap → Prop} (hb : RdS hB 1 b (cB l)) (hbc : b.n ≤ b.c) (hl : l.length ≤ 1000000000000)
    (hR : ∀ h', Ext hB.size hB h' → R (pktM l).1 (strB (pktM l).2.1) (pktM l).2.2 h') : C_ref18_ReadPacket b hB R := by
  refine A_ref18_ReadPacket ?_
  unfold S_ref18_ReadPacket
  have hbn := rd_b hb
  refine ref03_Take_ok hb hbc hl fun r h1 o1 f1 e1 => ?_
  have hn := rd_b o1.rd
  have w1 : ¬ ((takeM l).2.2 = 0 ∧ (takeM l).2.1 < l.length) → wholeM l = ((takeM l).1, (takeM l).2.2) := fun h => if_neg h
  have w2 : (takeM l).2.2 = 0 ∧ (takeM l).2.1 < l.length → wholeM l = ([], eForm) := fun h => if_pos h
  unfold pktM at hR
  refine brB (fun hb => ?_) fun hb => ?_
  · have hne : (takeM l).2.2 ≠ 0 := by simpa using hb
    rw [w1 (fun x => hne x.1)] at hR
    simp only at hR
    rw [if_pos hne] at hR
    exact hR h1 e1
  · have h0 : (takeM l).2.2 = 0 := by simpa using hb
    refine brD (fun hlt => ?_) fun hge => ?_
    · rw [w2 ⟨h0, by omega⟩] at hR
      exact hR h1 e1
    · rw [w1 (fun x => by have := x.2; omega)] at hR
      simp only [h0, ne_eq, not_true_eq_false, if_false] at hR
      cases hp : (takeM l).1 with
      | nil =>
        rw [hp] at hR hn
        exact brY (by rw [hn]; rfl) (hR h1 e1)
      | cons k d =>
        rw [hp] at hR hn o1
        simp only [List.length_cons] at hn
        refine brN (by rw [beq_eq_false_iff_ne]; omega) (ixcB o1.rd 0 rfl (by simp) ?_)
        refine cutBO o1 1 r.n r.c (loi rfl) (hi0 _) (.inl ⟨rfl, rfl⟩) (by omega) (by simp; omega) o1.2.1 (Nat.le_refl _) fun s2 o2 n2 c2 b2 => toS BT o2.rd ?_
        have e : ((k :: d).drop 1).take (r.n - 1) = d := by rw [hn]; simp
        rw [e]
        exact hR h1 e1
theorem wire_Packet_ok {k : UInt8} {x : Sl} {R : Sl → Int → Heap → Prop} (hx : RdS hB 1 x (cB xs)) (hl : xs.length ≤ 4095)
    (hR : ∀ s h', Own h' 1 s (cB (frameM (k :: xs))) → s.from_ hB.size → Ext hB.size hB h' → R s 0 h') : C_wire_Packet ((k.toNat : Nat) : Int) x hB R := by
  refine A_wire_Packet ?_
  unfold S_wire_Packet
  refine allocAt (At.start hB) fun h1 p1 H => ?_
  have hb : Blk h1 p1 _ [.int .u8 (k.toNat : Nat)] := H.get 0 rfl
  have o1 : Own h1 1 ⟨some ⟨p1, 0, none⟩, 1, 1⟩ (cB [k]) := Own.full hb (sz := 1) (n := 1) (by rfl) (by decide)
  have H1 := H.as_ 0 rfl (.own ⟨some ⟨p1, 0, none⟩, 1, 1⟩ 1 (cB [k])) o1 fun g hg => by simp [Res.fp, Sl.blk] at hg ⊢; omega
  refine appB o1 (H.arg hx) (by simp; omega) fun s2 h2' o2 g2 => ?_
  have H2 := H1.turn 0 rfl (r' := .own s2 1 (cB ([k] ++ xs))) g2.upd o2 g2.stp.grow
  refine frame_Put_ok (x := []) (Own.nil _ _) o2.rd (fun _ g _ e => by simp [Sl.blk] at e) (by decide) (fun hx => by simp at hx; omega) fun _ r3 h3' o3 g3 => ?_
  rw [List.nil_append] at o3
  have e3 : Ext h2'.size h2' h3' := g3.upd.ext (Nat.le_refl _) fun g _ e => by simp [Sl.blk] at e
  refine hR r3 h3' o3 ?_ (H2.ext.trans (e3.mono H2.ext.1))
  rcases g3.blk with e | e
  · intro g hg; rw [e] at hg; simp [Sl.blk] at hg
  · intro g hg; exact Nat.le_trans H2.ext.1 (e g hg)
/-! ## fixed -/
def fxR : Rep := ⟨0, 0, [], false⟩
def fxC : Cmd := ⟨2, 0, 0, 0, 0, [107], [], 0, false⟩
theorem i64_0 : i64ok 0 := ⟨by decide, by decide⟩
theorem fxC_put : cmdR (cmdB fxC) = some fxC := cmd_put ⟨by decide, by decide⟩ ⟨⟨by decide, by decide⟩, i64_0, i64_0, i64_0, i64_0, i64_0⟩
theorem fxR_bad : repR (repB fxR ++ [0]) = none := by kernel_rfl
theorem fxR_len : (repB fxR).length = 19 := by kernel_rfl
theorem ZEN : ZeroT Try.prog 90 [.int .i64 0, .string (⟨#[]⟩ : ByteArray)] := ⟨by kernel_rfl⟩
set_option maxHeartbeats 2000000 in
theorem law18_fixed_ok {R : Bool → Heap → Prop} (hR : ∀ h', Ext hB.size hB h' → R true h') : C_law18_fixed hB R := by
  refine A_law18_fixed ?_
  unfold S_law18_fixed
  have H := At.start hB
  refine wire_Reply_ok (val := []) (fun hno => absurd (show ([] : List UInt8).length ≤ 32 by decide) hno) fun _ s1 h1 o1 f1 e1 => ?_
  have H := H.new e1 (r := .own s1 1 (cB (repB fxR))) o1 f1
  refine wire_Command_ok (key := [107]) (val := []) (fun hno => absurd (show Cmd.fits fxC from ⟨by decide, by decide⟩) hno) fun _ s2 h2 o2 f2 e2 => ?_
  have H := H.new e2 (r := .own s2 1 (cB (cmdB fxC))) o2 f2
  refine wire_ReadCommand_ok (H.rdo 0 rfl) (H.own 0 rfl).2.1 (fun hn => by rw [fxC_put] at hn; cases hn) fun c hc h3 e3 => ?_
  rw [fxC_put] at hc
  injection hc with hc
  subst hc
  have H := H.ext' e3
  refine allocAt H fun h4 p4 H => ?_
  repeat (first | with_reducible refine nn ?_ | with_reducible refine let_ ?_ | with_reducible refine brSome ?_ | with_reducible refine brF ?_ | with_reducible refine brT ?_ | ((with_reducible apply ldAt H 0); exact rfl; exact rfl) | ((with_reducible apply ldAt0 H 0); exact rfl; exact rfl) | ((with_reducible apply stAt H 0); exact rfl; exact rfl; intro h H; (try dsimp only [List.set] at H)) | ((with_reducible apply stAt0 H 0); exact rfl; exact rfl; intro h H; (try dsimp only [List.set] at H)) | ((with_reducible apply allocAt H); intro h b H) | ((with_reducible refine ⟨?_, ?_⟩); first | ((with_reducible apply ldAt H 0); exact rfl; exact rfl; exact rfl) | ((with_reducible apply ldAt0 H 0); exact rfl; exact rfl; exact rfl)))
  have hbb : Blk _ _ _ [] := H.get 0 rfl
  have ob := Own.full hbb (sz := 1) (n := 0) (by rfl) (by decide)
  have H := H.as_ 0 rfl (.own ⟨some ⟨_, 0, none⟩, 0, 0⟩ 1 (cB [])) ob fun g hg => by simp [Res.fp, Sl.blk] at hg ⊢; omega
  (try dsimp only [List.set, List.take, List.drop, List.cons_append, List.nil_append, List.eraseIdx] at H)
  refine appB (xs := []) (H.own 0 rfl) (H.rdo 3 rfl) (by rw [fxR_len]; decide) fun s5 h5 o5 g5 => ?_
  have H := H.turn 0 rfl (r' := .own s5 1 (cB ([] ++ repB fxR))) g5.upd o5 g5.stp.grow
  rw [List.nil_append] at H
  (try dsimp only [List.set, List.take, List.drop, List.cons_append, List.nil_append, List.eraseIdx] at H)
  refine allocAt H fun h6 p6 H => ?_
  have hb6 : Blk h6 p6 _ [.int .u8 0] := H.get 0 rfl
  have r6 : RdS h6 1 ⟨some ⟨p6, 0, none⟩, 1, 1⟩ (cB [0]) := (Own.full hb6 (sz := 1) (n := 1) (by rfl) (by decide)).rd
  refine appB (H.own 1 rfl) r6 (by rw [fxR_len]; decide) fun s7 h7 o7 g7 => ?_
  have H := H.turn 1 rfl (r' := .own s7 1 (cB (repB fxR ++ [0]))) g7.upd o7 g7.stp.grow
  (try dsimp only [List.set, List.take, List.drop, List.cons_append, List.nil_append, List.eraseIdx] at H)
  refine wire_ReadReply_ok (H.rdo 1 rfl) (H.own 1 rfl).2.1 (fun _ h8 e8 => ?_) fun c hc => by rw [fxR_bad] at hc; cases hc
  have H := H.ext' e8
  refine allocAt H fun h9 p9 H => ?_
  repeat (first | with_reducible refine nn ?_ | with_reducible refine let_ ?_ | with_reducible refine brSome ?_ | with_reducible refine brF ?_ | with_reducible refine brT ?_ | ((with_reducible apply ldAt H 0); exact rfl; exact rfl) | ((with_reducible apply ldAt0 H 0); exact rfl; exact rfl) | ((with_reducible apply stAt H 0); exact rfl; exact rfl; intro h H; (try dsimp only [List.set] at H)) | ((with_reducible apply stAt0 H 0); exact rfl; exact rfl; intro h H; (try dsimp only [List.set] at H)) | ((with_reducible apply allocAt H); intro h b H) | ((with_reducible refine ⟨?_, ?_⟩); first | ((with_reducible apply ldAt H 0); exact rfl; exact rfl; exact rfl) | ((with_reducible apply ldAt0 H 0); exact rfl; exact rfl; exact rfl)))
  rename Heap => hw
  have hb9 : Blk hw _ _ [.int .u8 120] := H.get 0 rfl
  refine frz BT hb9 fun h10 b10 u10 z10 => ?_
  have r10 : RdS h10 1 ⟨some ⟨_, 0, none⟩, 1, 1⟩ (cB [120]) := (Own.full b10 (sz := 1) (n := 1) (by rfl) (by decide)).rd
  have H := H.turn 0 rfl (r' := .blk _ _ [.int .u8 120]) u10 b10 fun g hg => .inl hg
  (try dsimp only [List.set, List.take, List.drop, List.cons_append, List.nil_append, List.eraseIdx] at H)
  refine wire_Packet_ok (k := 7) r10 (by decide) fun s11 h11 o11 f11 e11 => ?_
  have H := H.new e11 (r := .own s11 1 (cB (frameM [7, 120]))) o11 f11
  have hpk : pktM (frameM [7, 120]) = (7, [120], 0) := pktM_frame (k := 7) (d := [120]) (by decide)
  refine wire_ReadPacket_ok (H.rdo 0 rfl) (H.own 0 rfl).2.1 (by rw [frameM_length]; decide) fun s12 h12 o12 f12 e12 => ?_
  rw [hpk] at o12 ⊢
  have H := H.new e12 (r := .own s12 1 (cB [120])) o12 f12
  refine mk TEN ZEN 9 9 rfl rfl (Nat.le_refl _) (by decide) (by decide) fun h13 b13 e13 z13 => ?_
  have H := H.ext' e13
  have r13 : RdS h13 2 ⟨some ⟨h12.size, 0, none⟩, 9, 9⟩ (eEN.fl (List.replicate 9 ⟨0, []⟩)) := (Own.full (cs := eEN.fl (List.replicate 9 ⟨0, []⟩)) b13 (sz := 2) (n := 9) (by rfl) (by decide)).rd
  refine wire_Message_ok r13 (by decide) (fun _ h14 e14 => ?_) fun hf => absurd hf.1 (by decide)
  have H := H.ext' e14
  have hn1 := rd_b (H.rdo (xs := cB (repB fxR)) 8 rfl)
  rw [fxR_len] at hn1
  refine brY (by rw [hn1]; rfl) (brY rfl (brY rfl (brY rfl (ldAt0 H 6 rfl (2 : Int) rfl (brY rfl (ldAt H 6 rfl (strB [107]) rfl (brY ?_ (brY rfl (brY rfl (brY rfl (toS BT (H.rdo 0 rfl) (brY ?_ (brY rfl (hR _ H.ext))))))))))))))
  · rw [strB_toList, show (⟨#[107]⟩ : ByteArray).toList = [107] from strB_toList [107]]; rfl
  · rw [strB_toList, show (⟨#[120]⟩ : ByteArray).toList = [120] from strB_toList [120]]; rfl
end
end Go.Proofs.Ytnognoiaakiepaa
