/-
  Layer 18 (wire): the law WireReads over the heap alone.
-/
import Derived.Test.YtnognoiaakiepaaXg
namespace Go.Proofs.Ytnognoiaakiepaa
open Go

def msg0 : Msg := ⟨0, 0, 0, 0, 0, 0, 0, false, []⟩
theorem same_case {α : Type} {o : Option α} {z x1 x2 : α} {e : Int} {v : Bool} (h1 : (o = none ∧ x1 = z ∧ e = 2) ∨ (o = some x1 ∧ e = 0)) (h2 : (o = none ∧ x2 = z ∧ v = false) ∨ (o = some x2 ∧ v = true)) :
    x2 = x1 ∧ ((e = 2 ∧ v = false) ∨ (e = 0 ∧ v = true)) ∧ (v = true → o = some x1) := by
  rcases h1 with ⟨a1, a2, a3⟩ | ⟨a1, a2⟩ <;> rcases h2 with ⟨b1, b2, b3⟩ | ⟨b1, b2⟩
  · exact ⟨b2.trans a2.symm, .inl ⟨a3, b3⟩, fun h => by rw [b3] at h; cases h⟩
  · rw [a1] at b1; cases b1
  · rw [a1] at b1; cases b1
  · rw [a1] at b1
    injection b1 with b1
    exact ⟨b1.symm, .inr ⟨a2, b2⟩, fun _ => a1⟩
section
variable {hB : Heap} {b : Sl} {l : List UInt8}
theorem wire_ReadCommand_ok2 {R : KL [.int .i64, .int .i64, .int .i64, .int .i64, .int .i64, .str, .str, .int .i64, .bool] → Int → Heap → Prop} (hb : RdS hB 1 b (cB l)) (hbc : b.n ≤ b.c)
    (hR : ∀ x e h', Ext hB.size hB h' → ((cmdR l = none ∧ x = cmd0 ∧ e = 2) ∨ (cmdR l = some x ∧ e = 0)) → R x.kl e h') : C_wire_ReadCommand b hB R :=
  wire_ReadCommand_ok hb hbc (fun hn h' e => hR cmd0 2 h' e (.inl ⟨hn, rfl, rfl⟩)) fun c hc h' e => hR c 0 h' e (.inr ⟨hc, rfl⟩)
theorem ref18_ReadCommand_ok2 {R : KL [.int .i64, .int .i64, .int .i64, .int .i64, .int .i64, .str, .str, .int .i64, .bool] → Bool → Heap → Prop}
    (hR : ∀ x v h', Ext hB.size hB h' → ((cmdR l = none ∧ x = cmd0 ∧ v = false) ∨ (cmdR l = some x ∧ v = true)) → R x.kl v h') : C_ref18_ReadCommand (strB l) hB R :=
  ref18_ReadCommand_ok (fun hn h' e => hR cmd0 false h' e (.inl ⟨hn, rfl, rfl⟩)) fun c hc h' e => hR c true h' e (.inr ⟨hc, rfl⟩)
theorem wire_ReadReply_ok2 {R : KL [.int .i64, .int .i64, .str, .bool] → Int → Heap → Prop} (hb : RdS hB 1 b (cB l)) (hbc : b.n ≤ b.c)
    (hR : ∀ x e h', Ext hB.size hB h' → ((repR l = none ∧ x = rep0 ∧ e = 2) ∨ (repR l = some x ∧ e = 0)) → R x.kl e h') : C_wire_ReadReply b hB R :=
  wire_ReadReply_ok hb hbc (fun hn h' e => hR rep0 2 h' e (.inl ⟨hn, rfl, rfl⟩)) fun c hc h' e => hR c 0 h' e (.inr ⟨hc, rfl⟩)
theorem ref18_ReadReply_ok2 {R : KL [.int .i64, .int .i64, .str, .bool] → Bool → Heap → Prop}
    (hR : ∀ x v h', Ext hB.size hB h' → ((repR l = none ∧ x = rep0 ∧ v = false) ∨ (repR l = some x ∧ v = true)) → R x.kl v h') : C_ref18_ReadReply (strB l) hB R :=
  ref18_ReadReply_ok (fun hn h' e => hR rep0 false h' e (.inl ⟨hn, rfl, rfl⟩)) fun c hc h' e => hR c true h' e (.inr ⟨hc, rfl⟩)
theorem wire_ReadMessage_ok2 {R : KL [.int .i64, .int .i64, .int .i64, .int .i64, .int .i64, .int .i64, .int .i64, .bool, .sl] → Int → Heap → Prop} (hb : RdS hB 1 b (cB l)) (hbc : b.n ≤ b.c)
    (hR : ∀ (x : Msg) out e h', Own h' 2 out (eEN.fl x.es) → out.from_ hB.size → Ext hB.size hB h' → ((msgR l = none ∧ x = msg0 ∧ e = 2) ∨ (msgR l = some x ∧ e = 0)) → R (x.kind, x.frm, x.to, x.term, x.index, x.lterm, x.commit, x.yes, out, ()) e h') : C_wire_ReadMessage b hB R :=
  wire_ReadMessage_ok hb hbc (fun hn h' e => hR msg0 ⟨none, 0, 0⟩ 2 h' (Own.nil _ _) (fun g hg => by simp [Sl.blk] at hg) e (.inl ⟨hn, rfl, rfl⟩)) fun c hc out h' o f e => hR c out 0 h' o f e (.inr ⟨hc, rfl⟩)
theorem ref18_ReadMessage_ok2 {R : KL [.int .i64, .int .i64, .int .i64, .int .i64, .int .i64, .int .i64, .int .i64, .bool, .sl] → Bool → Heap → Prop}
    (hR : ∀ (x : Msg) out v h', Own h' 2 out (eEN.fl x.es) → out.from_ hB.size → Ext hB.size hB h' → ((msgR l = none ∧ x = msg0 ∧ v = false) ∨ (msgR l = some x ∧ v = true)) → R (x.kind, x.frm, x.to, x.term, x.index, x.lterm, x.commit, x.yes, out, ()) v h') : C_ref18_ReadMessage (strB l) hB R :=
  ref18_ReadMessage_ok (fun hn h' e => hR msg0 ⟨none, 0, 0⟩ false h' (Own.nil _ _) (fun g hg => by simp [Sl.blk] at hg) e (.inl ⟨hn, rfl, rfl⟩)) fun c hc out h' o f e => hR c out true h' o f e (.inr ⟨hc, rfl⟩)
end
set_option maxRecDepth 100000 in
set_option maxHeartbeats 4000000 in
theorem law18_WireReads_ok {b : Sl} {hB : Heap} {l : List UInt8} (w0 : Arg hB 1 b (cB l) ∧ b.below hB.size ∧ b.c ≤ 140737488351232) : C_law18_WireReads b hB fun r h' => r = true ∧ Ext hB.size hB h' := by
  refine A_law18_WireReads ?_
  unfold S_law18_WireReads
  obtain ⟨hA, _, _⟩ := w0
  have A := hA.rd
  have hle := hA.le
  refine law18_fixed_ok fun h0 e0 => brN rfl (brD (fun _ => ⟨rfl, e0⟩) fun hc1 => ?_)
  have H := At.of_ext e0
  refine wire_ReadCommand_ok2 (H.arg A) hle fun x1 r1 h1 q1 hcs1 => ?_
  refine allocAt (H.ext' q1) fun h2 pc H => ?_
  repeat (first | with_reducible refine nn ?_ | with_reducible refine let_ ?_ | with_reducible refine brSome ?_ | with_reducible refine brF ?_ | with_reducible refine brT ?_ | ((with_reducible apply ldAt H 0); exact rfl; exact rfl) | ((with_reducible apply ldAt0 H 0); exact rfl; exact rfl) | ((with_reducible apply stAt H 0); exact rfl; exact rfl; intro h H; (try dsimp only [List.set] at H)) | ((with_reducible apply stAt0 H 0); exact rfl; exact rfl; intro h H; (try dsimp only [List.set] at H)) | ((with_reducible apply allocAt H); intro h b H) | ((with_reducible refine ⟨?_, ?_⟩); first | ((with_reducible apply ldAt H 0); exact rfl; exact rfl; exact rfl) | ((with_reducible apply ldAt0 H 0); exact rfl; exact rfl; exact rfl)))
  rename Heap => g1
  have H : At hB g1 [.blk pc 56 x1.cells] := H
  refine toS BT (H.arg A) (ref18_ReadCommand_ok2 fun x2 v1 h3 q3 hcs2 => ?_)
  obtain ⟨rfl, hv1, hs1⟩ := same_case hcs1 hcs2
  refine allocAt (H.ext' q3) fun h4 px H => ?_
  repeat (first | with_reducible refine nn ?_ | with_reducible refine let_ ?_ | with_reducible refine brSome ?_ | with_reducible refine brF ?_ | with_reducible refine brT ?_ | ((with_reducible apply ldAt H 0); exact rfl; exact rfl) | ((with_reducible apply ldAt0 H 0); exact rfl; exact rfl) | ((with_reducible apply stAt H 0); exact rfl; exact rfl; intro h H; (try dsimp only [List.set] at H)) | ((with_reducible apply stAt0 H 0); exact rfl; exact rfl; intro h H; (try dsimp only [List.set] at H)) | ((with_reducible apply allocAt H); intro h b H) | ((with_reducible refine ⟨?_, ?_⟩); first | ((with_reducible apply ldAt H 0); exact rfl; exact rfl; exact rfl) | ((with_reducible apply ldAt0 H 0); exact rfl; exact rfl; exact rfl)))
  rename Heap => g2
  have H : At hB g2 [.blk px 56 x2.cells, .blk pc 56 x2.cells] := H
  refine wire_ReadReply_ok2 (H.arg A) hle fun x3 r3 h5 q5 hcs3 => ?_
  refine allocAt (H.ext' q5) fun h6 pr H => ?_
  repeat (first | with_reducible refine nn ?_ | with_reducible refine let_ ?_ | with_reducible refine brSome ?_ | with_reducible refine brF ?_ | with_reducible refine brT ?_ | ((with_reducible apply ldAt H 0); exact rfl; exact rfl) | ((with_reducible apply ldAt0 H 0); exact rfl; exact rfl) | ((with_reducible apply stAt H 0); exact rfl; exact rfl; intro h H; (try dsimp only [List.set] at H)) | ((with_reducible apply stAt0 H 0); exact rfl; exact rfl; intro h H; (try dsimp only [List.set] at H)) | ((with_reducible apply allocAt H); intro h b H) | ((with_reducible refine ⟨?_, ?_⟩); first | ((with_reducible apply ldAt H 0); exact rfl; exact rfl; exact rfl) | ((with_reducible apply ldAt0 H 0); exact rfl; exact rfl; exact rfl)))
  rename Heap => g3
  have H : At hB g3 [.blk pr 58 x3.cells, .blk px 56 x2.cells, .blk pc 56 x2.cells] := H
  refine toS BT (H.arg A) (ref18_ReadReply_ok2 fun x4 v2 h7 q7 hcs4 => ?_)
  obtain ⟨rfl, hv2, hs2⟩ := same_case hcs3 hcs4
  refine allocAt (H.ext' q7) fun h8 py H => ?_
  repeat (first | with_reducible refine nn ?_ | with_reducible refine let_ ?_ | with_reducible refine brSome ?_ | with_reducible refine brF ?_ | with_reducible refine brT ?_ | ((with_reducible apply ldAt H 0); exact rfl; exact rfl) | ((with_reducible apply ldAt0 H 0); exact rfl; exact rfl) | ((with_reducible apply stAt H 0); exact rfl; exact rfl; intro h H; (try dsimp only [List.set] at H)) | ((with_reducible apply stAt0 H 0); exact rfl; exact rfl; intro h H; (try dsimp only [List.set] at H)) | ((with_reducible apply allocAt H); intro h b H) | ((with_reducible refine ⟨?_, ?_⟩); first | ((with_reducible apply ldAt H 0); exact rfl; exact rfl; exact rfl) | ((with_reducible apply ldAt0 H 0); exact rfl; exact rfl; exact rfl)))
  rename Heap => g4
  have H : At hB g4 [.blk py 58 x4.cells, .blk pr 58 x4.cells, .blk px 56 x2.cells, .blk pc 56 x2.cells] := H
  refine wire_ReadMessage_ok2 (H.arg A) hle fun x5 om r5 h9 o9 f9 q9 hcs5 => ?_
  have H := H.new q9 (r := .own om 2 (eEN.fl x5.es)) o9 f9
  refine allocAt H fun h10 pm H => ?_
  repeat (first | with_reducible refine nn ?_ | with_reducible refine let_ ?_ | with_reducible refine brSome ?_ | with_reducible refine brF ?_ | with_reducible refine brT ?_ | ((with_reducible apply ldAt H 0); exact rfl; exact rfl) | ((with_reducible apply ldAt0 H 0); exact rfl; exact rfl) | ((with_reducible apply stAt H 0); exact rfl; exact rfl; intro h H; (try dsimp only [List.set] at H)) | ((with_reducible apply stAt0 H 0); exact rfl; exact rfl; intro h H; (try dsimp only [List.set] at H)) | ((with_reducible apply allocAt H); intro h b H) | ((with_reducible refine ⟨?_, ?_⟩); first | ((with_reducible apply ldAt H 0); exact rfl; exact rfl; exact rfl) | ((with_reducible apply ldAt0 H 0); exact rfl; exact rfl; exact rfl)))
  rename Heap => g5
  have H : At hB g5 (.blk pm 81 [.int .i64 x5.kind, .int .i64 x5.frm, .int .i64 x5.to, .int .i64 x5.term, .int .i64 x5.index, .int .i64 x5.lterm, .int .i64 x5.commit, .bool x5.yes, .slice om.a om.n om.c] :: .own om 2 (eEN.fl x5.es) :: [.blk py 58 x4.cells, .blk pr 58 x4.cells, .blk px 56 x2.cells, .blk pc 56 x2.cells]) := H
  refine toS BT (H.arg A) (ref18_ReadMessage_ok2 fun x6 oz v3 h11 o11 f11 q11 hcs6 => ?_)
  obtain ⟨rfl, hv3, hs3⟩ := same_case hcs5 hcs6
  have H := H.new q11 (r := .own oz 2 (eEN.fl x6.es)) o11 f11
  refine allocAt H fun h12 pz H => ?_
  repeat (first | with_reducible refine nn ?_ | with_reducible refine let_ ?_ | with_reducible refine brSome ?_ | with_reducible refine brF ?_ | with_reducible refine brT ?_ | ((with_reducible apply ldAt H 0); exact rfl; exact rfl) | ((with_reducible apply ldAt0 H 0); exact rfl; exact rfl) | ((with_reducible apply stAt H 0); exact rfl; exact rfl; intro h H; (try dsimp only [List.set] at H)) | ((with_reducible apply stAt0 H 0); exact rfl; exact rfl; intro h H; (try dsimp only [List.set] at H)) | ((with_reducible apply allocAt H); intro h b H) | ((with_reducible refine ⟨?_, ?_⟩); first | ((with_reducible apply ldAt H 0); exact rfl; exact rfl; exact rfl) | ((with_reducible apply ldAt0 H 0); exact rfl; exact rfl; exact rfl)))
  rename Heap => g6
  have H : At hB g6 (.blk pz 81 [.int .i64 x6.kind, .int .i64 x6.frm, .int .i64 x6.to, .int .i64 x6.term, .int .i64 x6.index, .int .i64 x6.lterm, .int .i64 x6.commit, .bool x6.yes, .slice oz.a oz.n oz.c] :: .own oz 2 (eEN.fl x6.es) :: .blk pm 81 [.int .i64 x6.kind, .int .i64 x6.frm, .int .i64 x6.to, .int .i64 x6.term, .int .i64 x6.index, .int .i64 x6.lterm, .int .i64 x6.commit, .bool x6.yes, .slice om.a om.n om.c] :: .own om 2 (eEN.fl x6.es) :: [.blk py 58 x4.cells, .blk pr 58 x4.cells, .blk px 56 x2.cells, .blk pc 56 x2.cells]) := H
  have hlen : x6.es.length ≤ 8 := by
    rcases hcs6 with ⟨_, h, _⟩ | ⟨h, _⟩
    · rw [h]; decide
    · exact (msg_back h).1.1
  refine ldAt0 H 7 rfl x2.kind rfl (ldAt H 7 rfl x2.tx rfl (ldAt H 7 rfl x2.att rfl (ldAt H 7 rfl x2.stamp rfl (ldAt H 7 rfl x2.op rfl (ldAt H 7 rfl (strB x2.key) rfl (ldAt H 7 rfl (strB x2.value) rfl (ldAt H 7 rfl x2.mode rfl (ldAt H 7 rfl x2.yes rfl ?_))))))))
  refine ldAt0 H 6 rfl x2.kind rfl (ldAt H 6 rfl x2.tx rfl (ldAt H 6 rfl x2.att rfl (ldAt H 6 rfl x2.stamp rfl (ldAt H 6 rfl x2.op rfl (ldAt H 6 rfl (strB x2.key) rfl (ldAt H 6 rfl (strB x2.value) rfl (ldAt H 6 rfl x2.mode rfl (ldAt H 6 rfl x2.yes rfl ?_))))))))
  refine opNeq (us := x2.cells) (vs := x2.cells) (by kernel_rfl) (brN (by rw [(cmd_eqL _ _).2 rfl]; rfl) ?_)
  refine ldAt0 H 5 rfl x4.code rfl (ldAt H 5 rfl x4.state rfl (ldAt H 5 rfl (strB x4.value) rfl (ldAt H 5 rfl x4.has rfl ?_)))
  refine ldAt0 H 4 rfl x4.code rfl (ldAt H 4 rfl x4.state rfl (ldAt H 4 rfl (strB x4.value) rfl (ldAt H 4 rfl x4.has rfl ?_)))
  refine opNeq (us := x4.cells) (vs := x4.cells) (by kernel_rfl) (brN (by rw [(rep_eqL _ _).2 rfl]; rfl) ?_)
  refine ldAt0 H 2 rfl x6.kind rfl (ldAt H 2 rfl x6.frm rfl (ldAt H 2 rfl x6.to rfl (ldAt H 2 rfl x6.term rfl (ldAt H 2 rfl x6.index rfl (ldAt H 2 rfl x6.lterm rfl (ldAt H 2 rfl x6.commit rfl (ldAt H 2 rfl x6.yes rfl (ldAt H 2 rfl om rfl ?_))))))))
  refine ldAt0 H 0 rfl x6.kind rfl (ldAt H 0 rfl x6.frm rfl (ldAt H 0 rfl x6.to rfl (ldAt H 0 rfl x6.term rfl (ldAt H 0 rfl x6.index rfl (ldAt H 0 rfl x6.lterm rfl (ldAt H 0 rfl x6.commit rfl (ldAt H 0 rfl x6.yes rfl (ldAt H 0 rfl oz rfl ?_))))))))
  refine ref18_Same_ok (H.rdo 3 rfl) (H.rdo 1 rfl) (by omega) fun w h13 q13 hw => ?_
  obtain rfl : w = true := hw rfl
  have H := H.ext' q13
  refine brN rfl ?_
  have tail := TailR_ok (r4 := v1) (r9 := v2) (r13 := v3) (H.subl (.cons _ (.cons _ (.cons_cons _ (.cons_cons _ (.cons _ (.cons_cons _ (.cons _ (.cons_cons _ .slnil))))))))) A hs1 hs2 hs3
  rcases hv1 with ⟨rfl, rfl⟩ | ⟨rfl, rfl⟩ <;> rcases hv2 with ⟨rfl, rfl⟩ | ⟨rfl, rfl⟩ <;> rcases hv3 with ⟨rfl, rfl⟩ | ⟨rfl, rfl⟩ <;> (repeat (first | refine brN rfl ?_ | refine brY rfl ?_)) <;> exact tail
end Go.Proofs.Ytnognoiaakiepaa
