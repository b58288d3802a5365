/-
  Layer 18 (wire): contracts of reading commands; of answers: the program's, and the document's.
-/
import Derived.Test.YtnognoiaakiepaaXb
namespace Go.Proofs.Ytnognoiaakiepaa
open Go

theorem nst1 (l : List UInt8) : nst l 1 = c1 l := rfl
theorem nst2 (l : List UInt8) : nst l 2 = c2 l := by unfold c2; rw [← nst1]; rfl
theorem nst3 (l : List UInt8) : nst l 3 = c3 l := by unfold c3; rw [← nst2]; rfl
theorem nst4 (l : List UInt8) : nst l 4 = c4 l := by unfold c4; rw [← nst3]; rfl
theorem nst5 (l : List UInt8) : nst l 5 = c5 l := by unfold c5; rw [← nst4]; rfl
theorem nst6 (l : List UInt8) : nst l 6 = c6 l := by unfold c6; rw [← nst5]; rfl
theorem nst7 (l : List UInt8) : nst l 7 = c7 l := by unfold c7; rw [← nst6]; rfl
theorem nvs5 (l : List UInt8) : nvs l 5 = [(c1 l).2.2, (c2 l).2.2, (c3 l).2.2, (c4 l).2.2, (c5 l).2.2] := by
  rw [nvs_succ, nvs_succ, nvs_succ, nvs_succ, nvs_succ, nst1, nst2, nst3, nst4, nst5]; rfl
theorem nvs7 (l : List UInt8) : nvs l 7 = [(c1 l).2.2, (c2 l).2.2, (c3 l).2.2, (c4 l).2.2, (c5 l).2.2, (c6 l).2.2, (c7 l).2.2] := by
  rw [nvs_succ, nvs_succ, nvs5, nst6, nst7]; rfl
section
variable {h0 hB h : Heap} {L F : List Res} {p : Nat} {ty : TypeId} {b s q : Sl} {l0 xs l : List UInt8} {bad : Bool}
/-! The same rules, by a name for what was read. -/
theorem numE {T : Bool × List UInt8 × Int} {R : Int → Heap → Prop} (e : rI bad l = T) (H : At h0 h (rdr p ty s bad :: F)) (hs : RdF q l0 s l) (hq : Src h0 p F q l0)
    (hR : ∀ h' s', At h0 h' (rdr p ty s' T.1 :: F) → RdF q l0 s' T.2.1 → R T.2.2 h') : C_wire_number (some ⟨p, 0, none⟩) h R := by
  subst e; exact wire_number_ok H hs hq hR
theorem textE {T : Bool × List UInt8 × List UInt8} {m : Int} {R : ByteArray → Heap → Prop} (e : mText bad l m = T) (H : At h0 h (rdr p ty s bad :: F)) (hs : RdF q l0 s l) (hq : Src h0 p F q l0)
    (hR : ∀ h' s', At h0 h' (rdr p ty s' T.1 :: F) → RdF q l0 s' T.2.1 → R (strB T.2.2) h') : C_word_Reader_Text (some ⟨p, 0, none⟩) m h R := by
  subst e; exact word_Text_ok H hs hq hR
theorem boolE {T : Bool × List UInt8 × Bool} {R : Bool → Heap → Prop} (e : mBool bad l = T) (H : At h0 h (rdr p ty s bad :: F)) (hs : RdF q l0 s l) (hq : Src h0 p F q l0)
    (hR : ∀ h' s', At h0 h' (rdr p ty s' T.1 :: F) → RdF q l0 s' T.2.1 → R T.2.2 h') : C_word_Reader_Bool (some ⟨p, 0, none⟩) h R := by
  subst e; exact word_Bool_ok H hs hq hR
theorem intQ {T : Bool × List UInt8 × Int} {lo hi : Int} {R : Int → Heap → Prop} (e : mInt bad l lo hi = T) (H : At h0 h (qrd p ty l bad :: F))
    (hR : ∀ h', At h0 h' (qrd p ty T.2.1 T.1 :: F) → R T.2.2 h') : C_ref01_Reader_Int (some ⟨p, 0, none⟩) lo hi h R := by
  subst e; exact ref01_RInt_ok H hR
theorem textQ {T : Bool × List UInt8 × List UInt8} {m : Int} {R : ByteArray → Heap → Prop} (e : mText bad l m = T) (H : At h0 h (qrd p ty l bad :: F))
    (hR : ∀ h', At h0 h' (qrd p ty T.2.1 T.1 :: F) → R (strB T.2.2) h') : C_ref01_Reader_Text (some ⟨p, 0, none⟩) m h R := by
  subst e; exact ref01_RText_ok H hR
theorem boolQ {T : Bool × List UInt8 × Bool} {R : Bool → Heap → Prop} (e : mBool bad l = T) (H : At h0 h (qrd p ty l bad :: F))
    (hR : ∀ h', At h0 h' (qrd p ty T.2.1 T.1 :: F) → R T.2.2 h') : C_ref01_Reader_Bool (some ⟨p, 0, none⟩) h R := by
  subst e; exact ref01_RBool_ok H hR
set_option maxHeartbeats 4000000 in
theorem wire_ReadCommand_ok {R : KL [.int .i64, .int .i64, .int .i64, .int .i64, .int .i64, .str, .str, .int .i64, .bool] → Int → Heap → Prop} (hb : RdS hB 1 b (cB l)) (hbc : b.n ≤ b.c)
    (h1 : cmdR l = none → ∀ h', Ext hB.size hB h' → R cmd0.kl 2 h') (h2 : ∀ c, cmdR l = some c → ∀ h', Ext hB.size hB h' → R c.kl 0 h') : C_wire_ReadCommand b hB R := by
  refine A_wire_ReadCommand ?_
  unfold S_wire_ReadCommand
  have hsr : ∀ p F, Src hB p F b l := fun p F h' ty cs H => H.arg hb
  refine allocAt (At.start hB) fun hc1 p1 H => word_Read_ok H fun pr tyr hc2 H => ?_
  refine wire_some_ok (n := 5) (by decide) H (RdF.self (H.arg hb) hbc) (fun h' L H => H.arg hb) fun sl h3 s3 H r3 => ?_
  rw [nst5, nvs5] at H
  rw [nst5] at r3
  refine ixAt (E := eNU) H 1 rfl 0 rfl (by simp) fun e0 g0 => ldEl0 (E := eNU) H 1 rfl g0 (by simp) (c1 l).2.2 rfl ?_
  refine ixAt (E := eNU) H 1 rfl 1 rfl (by simp) fun e1 g1 => ldEl0 (E := eNU) H 1 rfl g1 (by simp) (c2 l).2.2 rfl ?_
  refine ixAt (E := eNU) H 1 rfl 2 rfl (by simp) fun e2 g2 => ldEl0 (E := eNU) H 1 rfl g2 (by simp) (c3 l).2.2 rfl ?_
  refine ixAt (E := eNU) H 1 rfl 3 rfl (by simp) fun e3 g3 => ldEl0 (E := eNU) H 1 rfl g3 (by simp) (c4 l).2.2 rfl ?_
  refine ixAt (E := eNU) H 1 rfl 4 rfl (by simp) fun e4 g4 => ldEl0 (E := eNU) H 1 rfl g4 (by simp) (c5 l).2.2 rfl ?_
  refine allocAt H fun hc4 p2 H => ⟨ldEl0 (E := eNU) H 2 rfl g0 (by simp) (c1 l).2.2 rfl rfl, ldEl0 (E := eNU) H 2 rfl g1 (by simp) (c2 l).2.2 rfl rfl, ldEl0 (E := eNU) H 2 rfl g2 (by simp) (c3 l).2.2 rfl rfl, ldEl0 (E := eNU) H 2 rfl g3 (by simp) (c4 l).2.2 rfl rfl, ldEl0 (E := eNU) H 2 rfl g4 (by simp) (c5 l).2.2 rfl rfl, ?_⟩
  repeat (first | with_reducible refine nn ?_ | with_reducible refine let_ ?_ | with_reducible refine brSome ?_ | with_reducible refine brF ?_ | with_reducible refine brT ?_ | ((with_reducible apply ldAt H 0); exact rfl; exact rfl) | ((with_reducible apply ldAt0 H 0); exact rfl; exact rfl) | ((with_reducible apply stAt H 0); exact rfl; exact rfl; intro h H; (try dsimp only [List.set] at H)) | ((with_reducible apply stAt0 H 0); exact rfl; exact rfl; intro h H; (try dsimp only [List.set] at H)) | ((with_reducible apply allocAt H); intro h b H) | ((with_reducible refine ⟨?_, ?_⟩); first | ((with_reducible apply ldAt H 0); exact rfl; exact rfl; exact rfl) | ((with_reducible apply ldAt0 H 0); exact rfl; exact rfl; exact rfl)))
  refine textE (T := cK l) rfl (H.mv 1 1) r3 (hsr _ _) fun h6 s6 H r6 => textE (T := cV l) rfl H r6 (hsr _ _) fun h7 s7 H r7 => ?_
  refine stAt H 1 rfl rfl fun h8 H => stAt H 1 rfl rfl fun h9 H => ?_
  (try dsimp only [List.set, List.take, List.drop, List.cons_append, List.nil_append, List.eraseIdx] at H)
  refine numE (T := cM l) rfl H r7 (hsr _ _) fun h10 s10 H r10 => boolE (T := cY l) rfl H r10 (hsr _ _) fun h11 s11 H r11 => ?_
  refine stAt H 1 rfl rfl fun h12 H => stAt H 1 rfl rfl fun h13 H => ?_
  (try dsimp only [List.set, List.take, List.drop, List.cons_append, List.nil_append, List.eraseIdx] at H)
  repeat (first | with_reducible refine nn ?_ | with_reducible refine let_ ?_ | with_reducible refine brSome ?_ | with_reducible refine brF ?_ | with_reducible refine brT ?_ | ((with_reducible apply ldAt H 1); exact rfl; exact rfl) | ((with_reducible apply ldAt0 H 1); exact rfl; exact rfl) | ((with_reducible apply stAt H 1); exact rfl; exact rfl; intro h H; (try dsimp only [List.set] at H)) | ((with_reducible apply stAt0 H 1); exact rfl; exact rfl; intro h H; (try dsimp only [List.set] at H)) | ((with_reducible apply allocAt H); intro h b H) | ((with_reducible refine ⟨?_, ?_⟩); first | ((with_reducible apply ldAt H 1); exact rfl; exact rfl; exact rfl) | ((with_reducible apply ldAt0 H 1); exact rfl; exact rfl; exact rfl)))
  refine wire_whole_Command_ok H r11 (fun hno h' H => ?_) fun hyes h' H => ?_
  · repeat (first | with_reducible refine nn ?_ | with_reducible refine let_ ?_ | with_reducible refine brSome ?_ | with_reducible refine brF ?_ | with_reducible refine brT ?_ | ((with_reducible apply ldAt H 3); exact rfl; exact rfl) | ((with_reducible apply ldAt0 H 3); exact rfl; exact rfl) | ((with_reducible apply stAt H 3); exact rfl; exact rfl; intro h H; (try dsimp only [List.set] at H)) | ((with_reducible apply stAt0 H 3); exact rfl; exact rfl; intro h H; (try dsimp only [List.set] at H)) | ((with_reducible apply allocAt H); intro h b H) | ((with_reducible refine ⟨?_, ?_⟩); first | ((with_reducible apply ldAt H 3); exact rfl; exact rfl; exact rfl) | ((with_reducible apply ldAt0 H 3); exact rfl; exact rfl; exact rfl)))
    exact h1 (if_neg hno) _ H.ext
  · repeat (first | with_reducible refine nn ?_ | with_reducible refine let_ ?_ | with_reducible refine brSome ?_ | with_reducible refine brF ?_ | with_reducible refine brT ?_ | ((with_reducible apply ldAt H 3); exact rfl; exact rfl) | ((with_reducible apply ldAt0 H 3); exact rfl; exact rfl) | ((with_reducible apply stAt H 3); exact rfl; exact rfl; intro h H; (try dsimp only [List.set] at H)) | ((with_reducible apply stAt0 H 3); exact rfl; exact rfl; intro h H; (try dsimp only [List.set] at H)) | ((with_reducible apply allocAt H); intro h b H) | ((with_reducible refine ⟨?_, ?_⟩); first | ((with_reducible apply ldAt H 3); exact rfl; exact rfl; exact rfl) | ((with_reducible apply ldAt0 H 3); exact rfl; exact rfl; exact rfl)))
    exact h2 (cmdV l) (if_pos hyes) _ H.ext
set_option maxHeartbeats 4000000 in
theorem ref18_ReadCommand_ok {R : KL [.int .i64, .int .i64, .int .i64, .int .i64, .int .i64, .str, .str, .int .i64, .bool] → Bool → Heap → Prop}
    (h1 : cmdR l = none → ∀ h', Ext hB.size hB h' → R cmd0.kl false h') (h2 : ∀ c, cmdR l = some c → ∀ h', Ext hB.size hB h' → R c.kl true h') : C_ref18_ReadCommand (strB l) hB R := by
  refine A_ref18_ReadCommand ?_
  unfold S_ref18_ReadCommand
  refine allocAt (At.start hB) fun hc1 p1 H => allocAt H fun hc2 pr H => allocAt H fun hc3 p2 H => ?_
  repeat (first | with_reducible refine nn ?_ | with_reducible refine let_ ?_ | with_reducible refine brSome ?_ | with_reducible refine brF ?_ | with_reducible refine brT ?_ | ((with_reducible apply ldAt H 0); exact rfl; exact rfl) | ((with_reducible apply ldAt0 H 0); exact rfl; exact rfl) | ((with_reducible apply stAt H 0); exact rfl; exact rfl; intro h H; (try dsimp only [List.set] at H)) | ((with_reducible apply stAt0 H 0); exact rfl; exact rfl; intro h H; (try dsimp only [List.set] at H)) | ((with_reducible apply allocAt H); intro h b H) | ((with_reducible refine ⟨?_, ?_⟩); first | ((with_reducible apply ldAt H 0); exact rfl; exact rfl; exact rfl) | ((with_reducible apply ldAt0 H 0); exact rfl; exact rfl; exact rfl)))
  rename Heap => hw
  have H : At hB hw (qrd pr _ l false :: _) := H.mv 1 1
  refine intQ (T := c1 l) rfl H fun h4 H => stAt0 H 1 rfl rfl fun h5 H => intQ (T := c2 l) rfl H fun h6 H => stAt H 1 rfl rfl fun h7 H => intQ (T := c3 l) rfl H fun h8 H => stAt H 1 rfl rfl fun h9 H => ?_
  (try dsimp only [List.set, List.take, List.drop, List.cons_append, List.nil_append, List.eraseIdx] at H)
  refine intQ (T := c4 l) rfl H fun h4 H => stAt H 1 rfl rfl fun h5 H => intQ (T := c5 l) rfl H fun h6 H => stAt H 1 rfl rfl fun h7 H => ?_
  (try dsimp only [List.set, List.take, List.drop, List.cons_append, List.nil_append, List.eraseIdx] at H)
  refine textQ (T := cK l) rfl H fun h4 H => stAt H 1 rfl rfl fun h5 H => textQ (T := cV l) rfl H fun h6 H => stAt H 1 rfl rfl fun h7 H => ?_
  (try dsimp only [List.set, List.take, List.drop, List.cons_append, List.nil_append, List.eraseIdx] at H)
  refine intQ (T := cM l) rfl H fun h4 H => stAt H 1 rfl rfl fun h5 H => boolQ (T := cY l) rfl H fun h6 H => stAt H 1 rfl rfl fun h14 H => ?_
  have H : At hB h14 (qrd pr _ (cY l).2.1 (cY l).1 :: .blk p2 _ [.int .i64 (c1 l).2.2, .int .i64 (c2 l).2.2, .int .i64 (c3 l).2.2, .int .i64 (c4 l).2.2, .int .i64 (c5 l).2.2, .string (strB (cK l).2.2), .string (strB (cV l).2.2), .int .i64 (cM l).2.2, .bool (cY l).2.2] :: _) := H
  refine nn (ldAt H 0 rfl (cY l).1 rfl (brB (fun hb => ?_) fun hb => nn (ldAt0 H 0 rfl (strB (cY l).2.1) rfl ?_)))
  · repeat (first | with_reducible refine nn ?_ | with_reducible refine let_ ?_ | with_reducible refine brSome ?_ | with_reducible refine brF ?_ | with_reducible refine brT ?_ | ((with_reducible apply ldAt H 2); exact rfl; exact rfl) | ((with_reducible apply ldAt0 H 2); exact rfl; exact rfl) | ((with_reducible apply stAt H 2); exact rfl; exact rfl; intro h H; (try dsimp only [List.set] at H)) | ((with_reducible apply stAt0 H 2); exact rfl; exact rfl; intro h H; (try dsimp only [List.set] at H)) | ((with_reducible apply allocAt H); intro h b H) | ((with_reducible refine ⟨?_, ?_⟩); first | ((with_reducible apply ldAt H 2); exact rfl; exact rfl; exact rfl) | ((with_reducible apply ldAt0 H 2); exact rfl; exact rfl; exact rfl)))
    exact h1 (if_neg fun h => by rw [hb] at h; cases h.1) _ H.ext
  · rw [strB_toList, show (⟨#[]⟩ : ByteArray).toList = [] from strB_toList []]
    refine brB (fun hx => ?_) fun hx => ?_
    · repeat (first | with_reducible refine nn ?_ | with_reducible refine let_ ?_ | with_reducible refine brSome ?_ | with_reducible refine brF ?_ | with_reducible refine brT ?_ | ((with_reducible apply ldAt H 2); exact rfl; exact rfl) | ((with_reducible apply ldAt0 H 2); exact rfl; exact rfl) | ((with_reducible apply stAt H 2); exact rfl; exact rfl; intro h H; (try dsimp only [List.set] at H)) | ((with_reducible apply stAt0 H 2); exact rfl; exact rfl; intro h H; (try dsimp only [List.set] at H)) | ((with_reducible apply allocAt H); intro h b H) | ((with_reducible refine ⟨?_, ?_⟩); first | ((with_reducible apply ldAt H 2); exact rfl; exact rfl; exact rfl) | ((with_reducible apply ldAt0 H 2); exact rfl; exact rfl; exact rfl)))
      exact h1 (if_neg fun h => by rw [h.2] at hx; cases hx) _ H.ext
    · have hx : (cY l).2.1 = [] := by simpa using hx
      repeat (first | with_reducible refine nn ?_ | with_reducible refine let_ ?_ | with_reducible refine brSome ?_ | with_reducible refine brF ?_ | with_reducible refine brT ?_ | ((with_reducible apply ldAt H 1); exact rfl; exact rfl) | ((with_reducible apply ldAt0 H 1); exact rfl; exact rfl) | ((with_reducible apply ldAt H 2); exact rfl; exact rfl) | ((with_reducible apply ldAt0 H 2); exact rfl; exact rfl) | ((with_reducible apply stAt H 1); exact rfl; exact rfl; intro h H; (try dsimp only [List.set] at H)) | ((with_reducible apply stAt0 H 1); exact rfl; exact rfl; intro h H; (try dsimp only [List.set] at H)) | ((with_reducible apply stAt H 2); exact rfl; exact rfl; intro h H; (try dsimp only [List.set] at H)) | ((with_reducible apply stAt0 H 2); exact rfl; exact rfl; intro h H; (try dsimp only [List.set] at H)) | ((with_reducible apply allocAt H); intro h b H) | ((with_reducible refine ⟨?_, ?_⟩); first | ((with_reducible apply ldAt H 1); exact rfl; exact rfl; exact rfl) | ((with_reducible apply ldAt0 H 1); exact rfl; exact rfl; exact rfl) | ((with_reducible apply ldAt H 2); exact rfl; exact rfl; exact rfl) | ((with_reducible apply ldAt0 H 2); exact rfl; exact rfl; exact rfl)))
      exact h2 (cmdV l) (if_pos ⟨hb, hx⟩) _ H.ext
/-! ## Answers -/
theorem wire_Reply_ok {k t : Int} {val : List UInt8} {y : Bool} {R : Sl → Int → Heap → Prop}
    (h1 : ¬ Rep.fits ⟨k, t, val, y⟩ → ∀ h', Ext hB.size hB h' → R ⟨none, 0, 0⟩ 4 h')
    (h2 : Rep.fits ⟨k, t, val, y⟩ → ∀ s h', Own h' 1 s (cB (repB ⟨k, t, val, y⟩)) → s.from_ hB.size → Ext hB.size hB h' → R s 0 h') :
    C_wire_Reply (k, t, strB val, y, ()) hB R := by
  refine A_wire_Reply ?_
  unfold S_wire_Reply
  refine allocAt (At.start hB) fun hc1 p1 H => ldAt H 0 rfl (strB val) rfl ?_
  rw [strB_size]
  refine brD (fun hc => h1 (fun hf => by have h : val.length ≤ 32 := hf; omega) _ H.ext) fun hc2 => ?_
  have hv1 : val.length ≤ 32 := by omega
  refine ldAt0 H 0 rfl k rfl (ldAt H 0 rfl t rfl (allocAt H fun hc3 p2 H => ?_))
  refine wire_numbers_ok (ns := [k, t]) (xs := []) (H.nil 1) 0 rfl (by decide) (by simp) fun s4 h4 H => ?_
  refine ldAt H 2 rfl (strB val) rfl (ldAt H 2 rfl y rfl ?_)
  have htv := txt_length val
  refine wTextA H 0 rfl (by simp [be8_length] <;> omega) fun s5 h5 H => ⟨ldAt H 2 rfl y rfl rfl, ?_⟩
  rw [strB_data] at H
  refine wBoolA H 0 rfl (by simp [be8_length, htv] <;> omega) fun s8 h8 H => ?_
  refine h2 hv1 s8 h8 ?_ (H.from_ 0 rfl) H.ext
  have ho := H.own 0 rfl
  have e : [] ++ [k, t].flatMap be8 ++ txt val ++ tru y = repB ⟨k, t, val, y⟩ := by simp [repB]
  rw [← e]
  exact ho
theorem ref18_Reply_ok {k t : Int} {val : List UInt8} {y : Bool} {R : ByteArray → Bool → Heap → Prop} (hv : val.length ≤ 1000000)
    (hR : ∀ v h', Ext hB.size hB h' → (v = true ↔ Rep.fits ⟨k, t, val, y⟩) → R (strB (repB ⟨k, t, val, y⟩)) v h') :
    C_ref18_Reply (k, t, strB val, y, ()) hB R := by
  refine A_ref18_Reply ?_
  unfold S_ref18_Reply
  have htv := txt_length val
  have htru : (tru y).length = 1 := rfl
  refine allocAt (At.start hB) fun hc1 p1 H => ?_
  repeat (first | with_reducible refine nn ?_ | with_reducible refine let_ ?_ | with_reducible refine brSome ?_ | with_reducible refine brF ?_ | with_reducible refine brT ?_ | ((with_reducible apply ldAt H 0); exact rfl; exact rfl) | ((with_reducible apply ldAt0 H 0); exact rfl; exact rfl) | ((with_reducible apply stAt H 0); exact rfl; exact rfl; intro h H; (try dsimp only [List.set] at H)) | ((with_reducible apply stAt0 H 0); exact rfl; exact rfl; intro h H; (try dsimp only [List.set] at H)) | ((with_reducible apply allocAt H); intro h b H) | ((with_reducible refine ⟨?_, ?_⟩); first | ((with_reducible apply ldAt H 0); exact rfl; exact rfl; exact rfl) | ((with_reducible apply ldAt0 H 0); exact rfl; exact rfl; exact rfl)))
  refine ref01_IntP fun h2 e2 => ?_
  have H := H.ext' e2
  repeat (first | with_reducible refine nn ?_ | with_reducible refine let_ ?_ | with_reducible refine brSome ?_ | with_reducible refine brF ?_ | with_reducible refine brT ?_ | ((with_reducible apply ldAt H 0); exact rfl; exact rfl) | ((with_reducible apply ldAt0 H 0); exact rfl; exact rfl) | ((with_reducible apply stAt H 0); exact rfl; exact rfl; intro h H; (try dsimp only [List.set] at H)) | ((with_reducible apply stAt0 H 0); exact rfl; exact rfl; intro h H; (try dsimp only [List.set] at H)) | ((with_reducible apply allocAt H); intro h b H) | ((with_reducible refine ⟨?_, ?_⟩); first | ((with_reducible apply ldAt H 0); exact rfl; exact rfl; exact rfl) | ((with_reducible apply ldAt0 H 0); exact rfl; exact rfl; exact rfl)))
  refine ref01_IntP fun h3 e3 => ?_
  have H := H.ext' e3
  repeat (first | with_reducible refine nn ?_ | with_reducible refine let_ ?_ | with_reducible refine brSome ?_ | with_reducible refine brF ?_ | with_reducible refine brT ?_ | ((with_reducible apply ldAt H 0); exact rfl; exact rfl) | ((with_reducible apply ldAt0 H 0); exact rfl; exact rfl) | ((with_reducible apply stAt H 0); exact rfl; exact rfl; intro h H; (try dsimp only [List.set] at H)) | ((with_reducible apply stAt0 H 0); exact rfl; exact rfl; intro h H; (try dsimp only [List.set] at H)) | ((with_reducible apply allocAt H); intro h b H) | ((with_reducible refine ⟨?_, ?_⟩); first | ((with_reducible apply ldAt H 0); exact rfl; exact rfl; exact rfl) | ((with_reducible apply ldAt0 H 0); exact rfl; exact rfl; exact rfl)))
  refine cat (by simp only [strB_size, be8_length]; omega) (ref01_TextP (by rw [strB_size]; omega) fun h4 e4 => ?_)
  have H := H.ext' e4
  rw [strB_append, strB_data]
  repeat (first | with_reducible refine nn ?_ | with_reducible refine let_ ?_ | with_reducible refine brSome ?_ | with_reducible refine brF ?_ | with_reducible refine brT ?_ | ((with_reducible apply ldAt H 0); exact rfl; exact rfl) | ((with_reducible apply ldAt0 H 0); exact rfl; exact rfl) | ((with_reducible apply stAt H 0); exact rfl; exact rfl; intro h H; (try dsimp only [List.set] at H)) | ((with_reducible apply stAt0 H 0); exact rfl; exact rfl; intro h H; (try dsimp only [List.set] at H)) | ((with_reducible apply allocAt H); intro h b H) | ((with_reducible refine ⟨?_, ?_⟩); first | ((with_reducible apply ldAt H 0); exact rfl; exact rfl; exact rfl) | ((with_reducible apply ldAt0 H 0); exact rfl; exact rfl; exact rfl)))
  refine cat (by simp only [strB_size, List.length_append, be8_length]; omega) (ref01_BoolP fun h5 e5 => ?_)
  have H := H.ext' e5
  rw [strB_append]
  repeat (first | with_reducible refine nn ?_ | with_reducible refine let_ ?_ | with_reducible refine brSome ?_ | with_reducible refine brF ?_ | with_reducible refine brT ?_ | ((with_reducible apply ldAt H 0); exact rfl; exact rfl) | ((with_reducible apply ldAt0 H 0); exact rfl; exact rfl) | ((with_reducible apply stAt H 0); exact rfl; exact rfl; intro h H; (try dsimp only [List.set] at H)) | ((with_reducible apply stAt0 H 0); exact rfl; exact rfl; intro h H; (try dsimp only [List.set] at H)) | ((with_reducible apply allocAt H); intro h b H) | ((with_reducible refine ⟨?_, ?_⟩); first | ((with_reducible apply ldAt H 0); exact rfl; exact rfl; exact rfl) | ((with_reducible apply ldAt0 H 0); exact rfl; exact rfl; exact rfl)))
  refine cat (by simp only [strB_size, List.length_append, be8_length]; omega) ?_
  rw [strB_append]
  have e : be8 k ++ be8 t ++ txt val ++ tru y = repB ⟨k, t, val, y⟩ := by simp [repB]
  rw [e]
  refine hR _ _ H.ext ?_
  rw [strB_size, decide_eq_true_eq]
  exact ⟨fun x => by show val.length ≤ 32; omega, fun hf => by have h : val.length ≤ 32 := hf; omega⟩
def Rep.kl (c : Rep) : KL [.int .i64, .int .i64, .str, .bool] := (c.code, c.state, strB c.value, c.has, ())
def rep0 : Rep := ⟨0, 0, [], false⟩
theorem wire_whole_Reply_ok {k t : Int} {val : ByteArray} {y : Bool} {R : KL [.int .i64, .int .i64, .str, .bool] → Int → Heap → Prop} (H : At h0 h (rdr p ty s bad :: F)) (hs : RdF q l0 s l)
    (h1 : ¬ (bad = false ∧ l = []) → ∀ h', At h0 h' (rdr p ty s bad :: F) → R rep0.kl 2 h') (h2 : bad = false ∧ l = [] → ∀ h', At h0 h' (rdr p ty s bad :: F) → R (k, t, val, y, ()) 0 h') :
    C_wire_whole_api_Reply (some ⟨p, 0, none⟩) (k, t, val, y, ()) h R := by
  refine A_wire_whole_api_Reply ?_
  unfold S_wire_whole_api_Reply
  refine allocAt H fun hc1 p1 H => allocAt H fun hc2 p2 H => ?_
  refine word_Done_ok (H.mv 2 1) hs (brB (fun hb => ?_) fun hb => ?_)
  · repeat (first | with_reducible refine nn ?_ | with_reducible refine let_ ?_ | with_reducible refine brSome ?_ | with_reducible refine brF ?_ | with_reducible refine brT ?_ | ((with_reducible apply ldAt H 0); exact rfl; exact rfl) | ((with_reducible apply ldAt0 H 0); exact rfl; exact rfl) | ((with_reducible apply ldAt H 1); exact rfl; exact rfl) | ((with_reducible apply ldAt0 H 1); exact rfl; exact rfl) | ((with_reducible apply ldAt H 2); exact rfl; exact rfl) | ((with_reducible apply ldAt0 H 2); exact rfl; exact rfl) | ((with_reducible apply stAt H 0); exact rfl; exact rfl; intro h H; (try dsimp only [List.set] at H)) | ((with_reducible apply stAt0 H 0); exact rfl; exact rfl; intro h H; (try dsimp only [List.set] at H)) | ((with_reducible apply stAt H 1); exact rfl; exact rfl; intro h H; (try dsimp only [List.set] at H)) | ((with_reducible apply stAt0 H 1); exact rfl; exact rfl; intro h H; (try dsimp only [List.set] at H)) | ((with_reducible apply stAt H 2); exact rfl; exact rfl; intro h H; (try dsimp only [List.set] at H)) | ((with_reducible apply stAt0 H 2); exact rfl; exact rfl; intro h H; (try dsimp only [List.set] at H)) | ((with_reducible apply allocAt H); intro h b H) | ((with_reducible refine ⟨?_, ?_⟩); first | ((with_reducible apply ldAt H 0); exact rfl; exact rfl; exact rfl) | ((with_reducible apply ldAt0 H 0); exact rfl; exact rfl; exact rfl) | ((with_reducible apply ldAt H 1); exact rfl; exact rfl; exact rfl) | ((with_reducible apply ldAt0 H 1); exact rfl; exact rfl; exact rfl) | ((with_reducible apply ldAt H 2); exact rfl; exact rfl; exact rfl) | ((with_reducible apply ldAt0 H 2); exact rfl; exact rfl; exact rfl)))
    refine h1 (fun hx => ?_) _ (H.drop 3)
    rw [hx.1, hx.2] at hb
    cases hb
  · repeat (first | with_reducible refine nn ?_ | with_reducible refine let_ ?_ | with_reducible refine brSome ?_ | with_reducible refine brF ?_ | with_reducible refine brT ?_ | ((with_reducible apply ldAt H 0); exact rfl; exact rfl) | ((with_reducible apply ldAt0 H 0); exact rfl; exact rfl) | ((with_reducible apply ldAt H 1); exact rfl; exact rfl) | ((with_reducible apply ldAt0 H 1); exact rfl; exact rfl) | ((with_reducible apply stAt H 0); exact rfl; exact rfl; intro h H; (try dsimp only [List.set] at H)) | ((with_reducible apply stAt0 H 0); exact rfl; exact rfl; intro h H; (try dsimp only [List.set] at H)) | ((with_reducible apply stAt H 1); exact rfl; exact rfl; intro h H; (try dsimp only [List.set] at H)) | ((with_reducible apply stAt0 H 1); exact rfl; exact rfl; intro h H; (try dsimp only [List.set] at H)) | ((with_reducible apply allocAt H); intro h b H) | ((with_reducible refine ⟨?_, ?_⟩); first | ((with_reducible apply ldAt H 0); exact rfl; exact rfl; exact rfl) | ((with_reducible apply ldAt0 H 0); exact rfl; exact rfl; exact rfl) | ((with_reducible apply ldAt H 1); exact rfl; exact rfl; exact rfl) | ((with_reducible apply ldAt0 H 1); exact rfl; exact rfl; exact rfl)))
    refine h2 ?_ _ (H.drop 2)
    cases bad with
    | true => cases hb
    | false => exact ⟨rfl, by simpa using hb⟩
theorem wire_ReadReply_ok {R : KL [.int .i64, .int .i64, .str, .bool] → Int → Heap → Prop} (hb : RdS hB 1 b (cB l)) (hbc : b.n ≤ b.c)
    (h1 : repR l = none → ∀ h', Ext hB.size hB h' → R rep0.kl 2 h') (h2 : ∀ c, repR l = some c → ∀ h', Ext hB.size hB h' → R c.kl 0 h') : C_wire_ReadReply b hB R := by
  refine A_wire_ReadReply ?_
  unfold S_wire_ReadReply
  have hsr : ∀ p F, Src hB p F b l := fun p F h' ty cs H => H.arg hb
  refine allocAt (At.start hB) fun hc1 p1 H => word_Read_ok H fun pr tyr hc2 H => allocAt H fun hc3 p2 H => ?_
  refine numE (T := c1 l) rfl (H.mv 1 1) (RdF.self (H.arg hb) hbc) (hsr _ _) fun h4 s4 H r4 => numE (T := c2 l) rfl H r4 (hsr _ _) fun h5 s5 H r5 => ?_
  refine stAt0 H 1 rfl rfl fun h6 H => stAt H 1 rfl rfl fun h7 H => ?_
  (try dsimp only [List.set, List.take, List.drop, List.cons_append, List.nil_append, List.eraseIdx] at H)
  refine textE (T := rV l) rfl H r5 (hsr _ _) fun h8 s8 H r8 => boolE (T := rH l) rfl H r8 (hsr _ _) fun h9 s9 H r9 => ?_
  refine stAt H 1 rfl rfl fun h12 H => stAt H 1 rfl rfl fun h13 H => ?_
  (try dsimp only [List.set, List.take, List.drop, List.cons_append, List.nil_append, List.eraseIdx] at H)
  repeat (first | with_reducible refine nn ?_ | with_reducible refine let_ ?_ | with_reducible refine brSome ?_ | with_reducible refine brF ?_ | with_reducible refine brT ?_ | ((with_reducible apply ldAt H 0); exact rfl; exact rfl) | ((with_reducible apply ldAt0 H 0); exact rfl; exact rfl) | ((with_reducible apply ldAt H 1); exact rfl; exact rfl) | ((with_reducible apply ldAt0 H 1); exact rfl; exact rfl) | ((with_reducible apply stAt H 0); exact rfl; exact rfl; intro h H; (try dsimp only [List.set] at H)) | ((with_reducible apply stAt0 H 0); exact rfl; exact rfl; intro h H; (try dsimp only [List.set] at H)) | ((with_reducible apply stAt H 1); exact rfl; exact rfl; intro h H; (try dsimp only [List.set] at H)) | ((with_reducible apply stAt0 H 1); exact rfl; exact rfl; intro h H; (try dsimp only [List.set] at H)) | ((with_reducible apply allocAt H); intro h b H) | ((with_reducible refine ⟨?_, ?_⟩); first | ((with_reducible apply ldAt H 0); exact rfl; exact rfl; exact rfl) | ((with_reducible apply ldAt0 H 0); exact rfl; exact rfl; exact rfl) | ((with_reducible apply ldAt H 1); exact rfl; exact rfl; exact rfl) | ((with_reducible apply ldAt0 H 1); exact rfl; exact rfl; exact rfl)))
  refine wire_whole_Reply_ok H r9 (fun hno h' H => ?_) fun hyes h' H => ?_
  · repeat (first | with_reducible refine nn ?_ | with_reducible refine let_ ?_ | with_reducible refine brSome ?_ | with_reducible refine brF ?_ | with_reducible refine brT ?_ | ((with_reducible apply ldAt H 0); exact rfl; exact rfl) | ((with_reducible apply ldAt0 H 0); exact rfl; exact rfl) | ((with_reducible apply ldAt H 1); exact rfl; exact rfl) | ((with_reducible apply ldAt0 H 1); exact rfl; exact rfl) | ((with_reducible apply ldAt H 2); exact rfl; exact rfl) | ((with_reducible apply ldAt0 H 2); exact rfl; exact rfl) | ((with_reducible apply stAt H 0); exact rfl; exact rfl; intro h H; (try dsimp only [List.set] at H)) | ((with_reducible apply stAt0 H 0); exact rfl; exact rfl; intro h H; (try dsimp only [List.set] at H)) | ((with_reducible apply stAt H 1); exact rfl; exact rfl; intro h H; (try dsimp only [List.set] at H)) | ((with_reducible apply stAt0 H 1); exact rfl; exact rfl; intro h H; (try dsimp only [List.set] at H)) | ((with_reducible apply stAt H 2); exact rfl; exact rfl; intro h H; (try dsimp only [List.set] at H)) | ((with_reducible apply stAt0 H 2); exact rfl; exact rfl; intro h H; (try dsimp only [List.set] at H)) | ((with_reducible apply allocAt H); intro h b H) | ((with_reducible refine ⟨?_, ?_⟩); first | ((with_reducible apply ldAt H 0); exact rfl; exact rfl; exact rfl) | ((with_reducible apply ldAt0 H 0); exact rfl; exact rfl; exact rfl) | ((with_reducible apply ldAt H 1); exact rfl; exact rfl; exact rfl) | ((with_reducible apply ldAt0 H 1); exact rfl; exact rfl; exact rfl) | ((with_reducible apply ldAt H 2); exact rfl; exact rfl; exact rfl) | ((with_reducible apply ldAt0 H 2); exact rfl; exact rfl; exact rfl)))
    exact h1 (if_neg hno) _ H.ext
  · repeat (first | with_reducible refine nn ?_ | with_reducible refine let_ ?_ | with_reducible refine brSome ?_ | with_reducible refine brF ?_ | with_reducible refine brT ?_ | ((with_reducible apply ldAt H 0); exact rfl; exact rfl) | ((with_reducible apply ldAt0 H 0); exact rfl; exact rfl) | ((with_reducible apply ldAt H 1); exact rfl; exact rfl) | ((with_reducible apply ldAt0 H 1); exact rfl; exact rfl) | ((with_reducible apply ldAt H 2); exact rfl; exact rfl) | ((with_reducible apply ldAt0 H 2); exact rfl; exact rfl) | ((with_reducible apply stAt H 0); exact rfl; exact rfl; intro h H; (try dsimp only [List.set] at H)) | ((with_reducible apply stAt0 H 0); exact rfl; exact rfl; intro h H; (try dsimp only [List.set] at H)) | ((with_reducible apply stAt H 1); exact rfl; exact rfl; intro h H; (try dsimp only [List.set] at H)) | ((with_reducible apply stAt0 H 1); exact rfl; exact rfl; intro h H; (try dsimp only [List.set] at H)) | ((with_reducible apply stAt H 2); exact rfl; exact rfl; intro h H; (try dsimp only [List.set] at H)) | ((with_reducible apply stAt0 H 2); exact rfl; exact rfl; intro h H; (try dsimp only [List.set] at H)) | ((with_reducible apply allocAt H); intro h b H) | ((with_reducible refine ⟨?_, ?_⟩); first | ((with_reducible apply ldAt H 0); exact rfl; exact rfl; exact rfl) | ((with_reducible apply ldAt0 H 0); exact rfl; exact rfl; exact rfl) | ((with_reducible apply ldAt H 1); exact rfl; exact rfl; exact rfl) | ((with_reducible apply ldAt0 H 1); exact rfl; exact rfl; exact rfl) | ((with_reducible apply ldAt H 2); exact rfl; exact rfl; exact rfl) | ((with_reducible apply ldAt0 H 2); exact rfl; exact rfl; exact rfl)))
    exact h2 (repV l) (if_pos hyes) _ H.ext
theorem ref18_ReadReply_ok {R : KL [.int .i64, .int .i64, .str, .bool] → Bool → Heap → Prop}
    (h1 : repR l = none → ∀ h', Ext hB.size hB h' → R rep0.kl false h') (h2 : ∀ c, repR l = some c → ∀ h', Ext hB.size hB h' → R c.kl true h') : C_ref18_ReadReply (strB l) hB R := by
  refine A_ref18_ReadReply ?_
  unfold S_ref18_ReadReply
  refine allocAt (At.start hB) fun hc1 p1 H => allocAt H fun hc2 pr H => allocAt H fun hc3 p2 H => ?_
  repeat (first | with_reducible refine nn ?_ | with_reducible refine let_ ?_ | with_reducible refine brSome ?_ | with_reducible refine brF ?_ | with_reducible refine brT ?_ | ((with_reducible apply ldAt H 0); exact rfl; exact rfl) | ((with_reducible apply ldAt0 H 0); exact rfl; exact rfl) | ((with_reducible apply stAt H 0); exact rfl; exact rfl; intro h H; (try dsimp only [List.set] at H)) | ((with_reducible apply stAt0 H 0); exact rfl; exact rfl; intro h H; (try dsimp only [List.set] at H)) | ((with_reducible apply allocAt H); intro h b H) | ((with_reducible refine ⟨?_, ?_⟩); first | ((with_reducible apply ldAt H 0); exact rfl; exact rfl; exact rfl) | ((with_reducible apply ldAt0 H 0); exact rfl; exact rfl; exact rfl)))
  rename Heap => hw
  have H : At hB hw (qrd pr _ l false :: _) := H.mv 1 1
  refine intQ (T := c1 l) rfl H fun h4 H => stAt0 H 1 rfl rfl fun h5 H => intQ (T := c2 l) rfl H fun h6 H => stAt H 1 rfl rfl fun h7 H => ?_
  (try dsimp only [List.set, List.take, List.drop, List.cons_append, List.nil_append, List.eraseIdx] at H)
  refine textQ (T := rV l) rfl H fun h4 H => stAt H 1 rfl rfl fun h5 H => boolQ (T := rH l) rfl H fun h6 H => stAt H 1 rfl rfl fun h14 H => ?_
  have H : At hB h14 (qrd pr _ (rH l).2.1 (rH l).1 :: .blk p2 _ [.int .i64 (c1 l).2.2, .int .i64 (c2 l).2.2, .string (strB (rV l).2.2), .bool (rH l).2.2] :: _) := H
  refine nn (ldAt H 0 rfl (rH l).1 rfl (brB (fun hb => ?_) fun hb => nn (ldAt0 H 0 rfl (strB (rH l).2.1) rfl ?_)))
  · repeat (first | with_reducible refine nn ?_ | with_reducible refine let_ ?_ | with_reducible refine brSome ?_ | with_reducible refine brF ?_ | with_reducible refine brT ?_ | ((with_reducible apply ldAt H 0); exact rfl; exact rfl) | ((with_reducible apply ldAt0 H 0); exact rfl; exact rfl) | ((with_reducible apply ldAt H 1); exact rfl; exact rfl) | ((with_reducible apply ldAt0 H 1); exact rfl; exact rfl) | ((with_reducible apply ldAt H 2); exact rfl; exact rfl) | ((with_reducible apply ldAt0 H 2); exact rfl; exact rfl) | ((with_reducible apply stAt H 0); exact rfl; exact rfl; intro h H; (try dsimp only [List.set] at H)) | ((with_reducible apply stAt0 H 0); exact rfl; exact rfl; intro h H; (try dsimp only [List.set] at H)) | ((with_reducible apply stAt H 1); exact rfl; exact rfl; intro h H; (try dsimp only [List.set] at H)) | ((with_reducible apply stAt0 H 1); exact rfl; exact rfl; intro h H; (try dsimp only [List.set] at H)) | ((with_reducible apply stAt H 2); exact rfl; exact rfl; intro h H; (try dsimp only [List.set] at H)) | ((with_reducible apply stAt0 H 2); exact rfl; exact rfl; intro h H; (try dsimp only [List.set] at H)) | ((with_reducible apply allocAt H); intro h b H) | ((with_reducible refine ⟨?_, ?_⟩); first | ((with_reducible apply ldAt H 0); exact rfl; exact rfl; exact rfl) | ((with_reducible apply ldAt0 H 0); exact rfl; exact rfl; exact rfl) | ((with_reducible apply ldAt H 1); exact rfl; exact rfl; exact rfl) | ((with_reducible apply ldAt0 H 1); exact rfl; exact rfl; exact rfl) | ((with_reducible apply ldAt H 2); exact rfl; exact rfl; exact rfl) | ((with_reducible apply ldAt0 H 2); exact rfl; exact rfl; exact rfl)))
    exact h1 (if_neg fun h => by rw [hb] at h; cases h.1) _ H.ext
  · rw [strB_toList, show (⟨#[]⟩ : ByteArray).toList = [] from strB_toList []]
    refine brB (fun hx => ?_) fun hx => ?_
    · repeat (first | with_reducible refine nn ?_ | with_reducible refine let_ ?_ | with_reducible refine brSome ?_ | with_reducible refine brF ?_ | with_reducible refine brT ?_ | ((with_reducible apply ldAt H 0); exact rfl; exact rfl) | ((with_reducible apply ldAt0 H 0); exact rfl; exact rfl) | ((with_reducible apply ldAt H 1); exact rfl; exact rfl) | ((with_reducible apply ldAt0 H 1); exact rfl; exact rfl) | ((with_reducible apply ldAt H 2); exact rfl; exact rfl) | ((with_reducible apply ldAt0 H 2); exact rfl; exact rfl) | ((with_reducible apply stAt H 0); exact rfl; exact rfl; intro h H; (try dsimp only [List.set] at H)) | ((with_reducible apply stAt0 H 0); exact rfl; exact rfl; intro h H; (try dsimp only [List.set] at H)) | ((with_reducible apply stAt H 1); exact rfl; exact rfl; intro h H; (try dsimp only [List.set] at H)) | ((with_reducible apply stAt0 H 1); exact rfl; exact rfl; intro h H; (try dsimp only [List.set] at H)) | ((with_reducible apply stAt H 2); exact rfl; exact rfl; intro h H; (try dsimp only [List.set] at H)) | ((with_reducible apply stAt0 H 2); exact rfl; exact rfl; intro h H; (try dsimp only [List.set] at H)) | ((with_reducible apply allocAt H); intro h b H) | ((with_reducible refine ⟨?_, ?_⟩); first | ((with_reducible apply ldAt H 0); exact rfl; exact rfl; exact rfl) | ((with_reducible apply ldAt0 H 0); exact rfl; exact rfl; exact rfl) | ((with_reducible apply ldAt H 1); exact rfl; exact rfl; exact rfl) | ((with_reducible apply ldAt0 H 1); exact rfl; exact rfl; exact rfl) | ((with_reducible apply ldAt H 2); exact rfl; exact rfl; exact rfl) | ((with_reducible apply ldAt0 H 2); exact rfl; exact rfl; exact rfl)))
      exact h1 (if_neg fun h => by rw [h.2] at hx; cases hx) _ H.ext
    · have hx : (rH l).2.1 = [] := by simpa using hx
      repeat (first | with_reducible refine nn ?_ | with_reducible refine let_ ?_ | with_reducible refine brSome ?_ | with_reducible refine brF ?_ | with_reducible refine brT ?_ | ((with_reducible apply ldAt H 0); exact rfl; exact rfl) | ((with_reducible apply ldAt0 H 0); exact rfl; exact rfl) | ((with_reducible apply ldAt H 1); exact rfl; exact rfl) | ((with_reducible apply ldAt0 H 1); exact rfl; exact rfl) | ((with_reducible apply ldAt H 2); exact rfl; exact rfl) | ((with_reducible apply ldAt0 H 2); exact rfl; exact rfl) | ((with_reducible apply stAt H 0); exact rfl; exact rfl; intro h H; (try dsimp only [List.set] at H)) | ((with_reducible apply stAt0 H 0); exact rfl; exact rfl; intro h H; (try dsimp only [List.set] at H)) | ((with_reducible apply stAt H 1); exact rfl; exact rfl; intro h H; (try dsimp only [List.set] at H)) | ((with_reducible apply stAt0 H 1); exact rfl; exact rfl; intro h H; (try dsimp only [List.set] at H)) | ((with_reducible apply stAt H 2); exact rfl; exact rfl; intro h H; (try dsimp only [List.set] at H)) | ((with_reducible apply stAt0 H 2); exact rfl; exact rfl; intro h H; (try dsimp only [List.set] at H)) | ((with_reducible apply allocAt H); intro h b H) | ((with_reducible refine ⟨?_, ?_⟩); first | ((with_reducible apply ldAt H 0); exact rfl; exact rfl; exact rfl) | ((with_reducible apply ldAt0 H 0); exact rfl; exact rfl; exact rfl) | ((with_reducible apply ldAt H 1); exact rfl; exact rfl; exact rfl) | ((with_reducible apply ldAt0 H 1); exact rfl; exact rfl; exact rfl) | ((with_reducible apply ldAt H 2); exact rfl; exact rfl; exact rfl) | ((with_reducible apply ldAt0 H 2); exact rfl; exact rfl; exact rfl)))
      exact h2 (repV l) (if_pos ⟨hb, hx⟩) _ H.ext
end
end Go.Proofs.Ytnognoiaakiepaa
