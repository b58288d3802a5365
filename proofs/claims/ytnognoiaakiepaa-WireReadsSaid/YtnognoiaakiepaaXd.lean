/-
  Layer 18 (wire): contracts of messages: the program's, and the document's.
-/
import Derived.Test.YtnognoiaakiepaaXc
namespace Go.Proofs.Ytnognoiaakiepaa
open Go

theorem mInt_rng (bad : Bool) (l : List UInt8) (hi : Int) (h : 0 ≤ hi) : 0 ≤ (mInt bad l 0 hi).2.2 ∧ (mInt bad l 0 hi).2.2 ≤ hi := by
  unfold mInt
  split
  · exact ⟨Int.le_refl _, h⟩
  · split
    · rename_i hc; exact hc
    · exact ⟨Int.le_refl _, h⟩
theorem entB_len (e : Ent) : (entB e).length ≤ 65545 := by
  have := txt_length e.d
  unfold entB
  rw [List.length_append, be8_length]; omega
theorem entBs_len : ∀ (es : List Ent), (es.flatMap entB).length ≤ es.length * 65545
  | [] => Nat.le_refl _
  | e :: es => by
    have h1 := entB_len e
    have h2 := entBs_len es
    rw [List.flatMap_cons, List.length_append, List.length_cons]; omega
section
variable {h0 hB h : Heap} {L F : List Res} {p : Nat} {ty : TypeId} {b s q sl : Sl} {l0 xs l : List UInt8} {bad : Bool} {es : List Ent}
theorem wire_entry_ok {R : KL [.int .i64, .str] → Heap → Prop} (H : At h0 h (rdr p ty s bad :: F)) (hs : RdF q l0 s l) (hsr : ∀ p F, Src h0 p F q l0)
    (hR : ∀ h' s', At h0 h' (rdr p ty s' (entT bad l).1 :: F) → RdF q l0 s' (entT bad l).2.1 → R ((rI bad l).2.2, strB (entT bad l).2.2, ()) h') : C_wire_entry (some ⟨p, 0, none⟩) h R := by
  refine A_wire_entry ?_
  unfold S_wire_entry
  refine allocAt H fun h1 p1 H => wire_number_ok (H.mv 1 1) hs (hsr _ _) fun h2 s2 H r2 => textE (T := entT bad l) rfl H r2 (hsr _ _) fun h3 s3 H r3 => ?_
  refine stAt0 H 1 rfl rfl fun h4 H => stAt H 1 rfl rfl fun h5 H => ldAt0 H 1 rfl _ rfl (ldAt H 1 rfl _ rfl ?_)
  exact hR h5 s3 (H.del 1) r3
theorem wire_list_ok {f : Value} {R : Sl → Heap → Prop} (hf : f = .func (.func 96) #[] #[]) (H : At h0 h (rdr p ty s bad :: F)) (hs : RdF q l0 s l) (hsr : ∀ p F, Src h0 p F q l0)
    (hR : ∀ out es h' s' bad' l', At h0 h' (rdr p ty s' bad' :: .own out 2 (eEN.fl es) :: F) → RdF q l0 s' l' →
      ((bad' = true ∧ (entsM (mInt bad l 0 8).2.2.toNat (mInt bad l 0 8).1 (mInt bad l 0 8).2.1 []).1 = true) ∨ entsM (mInt bad l 0 8).2.2.toNat (mInt bad l 0 8).1 (mInt bad l 0 8).2.1 [] = (bad', l', es)) → R out h') :
    C_wire_list_api_Entry (some ⟨p, 0, none⟩) 8 f h R := by
  subst hf
  refine A_wire_list_api_Entry ?_
  unfold S_wire_list_api_Entry
  refine word_Int_ok H hs (hsr _ _) fun h1 s1 H r1 => ?_
  have hrng := mInt_rng bad l 8 (by decide)
  obtain ⟨n, hn⟩ : ∃ n : Nat, (mInt bad l 0 8).2.2 = n := ⟨(mInt bad l 0 8).2.2.toNat, by omega⟩
  have hnt : (mInt bad l 0 8).2.2.toNat = n := by omega
  rw [hnt] at hR
  rw [hn]
  generalize hT : entsM n (mInt bad l 0 8).1 (mInt bad l 0 8).2.1 [] = T at *
  refine loop2 (s1 := .one .sl) (s2 := .one (.int .i64)) (fun (out : Sl) (x : Int) h2 => ∃ (k : Nat) (es : List Ent) (bad' : Bool) (l' : List UInt8) (s' : Sl), x = k ∧ es.length + k ≤ 8 ∧ At h0 h2 (rdr p ty s' bad' :: .own out 2 (eEN.fl es) :: F) ∧ RdF q l0 s' l' ∧ entsM k bad' l' es = T) (fun _ (x : Int) _ => x.toNat)
    ⟨n, [], _, _, s1, rfl, by simp; omega, (H.nil 2).mv 1 1, r1, hT⟩ fun _ (out : Sl) (x : Int) h2 hI => ?_
  obtain ⟨k, es, bad', l', s', rfl, hk, H, r2, hT2⟩ := hI
  refine brD (fun hc => ?_) fun hc => ?_
  · obtain ⟨j, rfl⟩ : ∃ j, k = j + 1 := ⟨k - 1, by omega⟩
    refine word_Fail_ok H ?_
    cases bad' with
    | true =>
      refine brF (hR out es h2 s' true l' H r2 (.inl ⟨rfl, ?_⟩))
      rw [← hT2]; exact entsM_bad _ _ _
    | false =>
      refine brT (wire_entry_ok H r2 hsr fun h3 s3 H r3 => ?_)
      refine app1At (E := eEN) TEN H 1 rfl ⟨(rI false l').2.2, (entT false l').2.2⟩ (by omega) (by omega) fun s4 h4 H => let_ ?_
      rw [w64 (by omega) (by omega)]
      refine ⟨⟨j, _, _, _, s3, by omega, by rw [List.length_append]; simp; omega, H, r3, hT2⟩, by omega⟩
  · obtain rfl : k = 0 := by omega
    exact hR out es h2 s' bad' l' H r2 (.inr hT2.symm)
theorem wire_whole_Message_ok {k t a st op mo cm : Int} {y : Bool} {sl : Sl} {R : KL [.int .i64, .int .i64, .int .i64, .int .i64, .int .i64, .int .i64, .int .i64, .bool, .sl] → Int → Heap → Prop} (H : At h0 h (rdr p ty s bad :: F)) (hs : RdF q l0 s l)
    (h1 : ¬ (bad = false ∧ l = []) → ∀ h', At h0 h' (rdr p ty s bad :: F) → R (0, 0, 0, 0, 0, 0, 0, false, ⟨none, 0, 0⟩, ()) 2 h') (h2 : bad = false ∧ l = [] → ∀ h', At h0 h' (rdr p ty s bad :: F) → R (k, t, a, st, op, mo, cm, y, sl, ()) 0 h') :
    C_wire_whole_api_Message (some ⟨p, 0, none⟩) (k, t, a, st, op, mo, cm, y, sl, ()) h R := by
  refine A_wire_whole_api_Message ?_
  unfold S_wire_whole_api_Message
  refine allocAt H fun hc1 p1 H => allocAt H fun hc2 p2 H => ?_
  refine word_Done_ok (H.mv 2 1) hs (brB (fun hb => ?_) fun hb => ?_)
  · repeat (first | with_reducible refine nn ?_ | with_reducible refine let_ ?_ | with_reducible refine brSome ?_ | with_reducible refine brF ?_ | with_reducible refine brT ?_ | ((with_reducible apply ldAt H 0); exact rfl; exact rfl) | ((with_reducible apply ldAt0 H 0); exact rfl; exact rfl) | ((with_reducible apply stAt H 0); exact rfl; exact rfl; intro h H; (try dsimp only [List.set] at H)) | ((with_reducible apply stAt0 H 0); exact rfl; exact rfl; intro h H; (try dsimp only [List.set] at H)) | ((with_reducible apply allocAt H); intro h b H) | ((with_reducible refine ⟨?_, ?_⟩); first | ((with_reducible apply ldAt H 0); exact rfl; exact rfl; exact rfl) | ((with_reducible apply ldAt0 H 0); exact rfl; exact rfl; exact rfl)))
    (try refine ldAt H 0 rfl (⟨none, 0, 0⟩ : Sl) rfl ?_)
    repeat (first | with_reducible refine nn ?_ | with_reducible refine let_ ?_ | with_reducible refine brSome ?_ | with_reducible refine brF ?_ | with_reducible refine brT ?_ | ((with_reducible apply ldAt H 1); exact rfl; exact rfl) | ((with_reducible apply ldAt0 H 1); exact rfl; exact rfl) | ((with_reducible apply stAt H 1); exact rfl; exact rfl; intro h H; (try dsimp only [List.set] at H)) | ((with_reducible apply stAt0 H 1); exact rfl; exact rfl; intro h H; (try dsimp only [List.set] at H)) | ((with_reducible apply allocAt H); intro h b H) | ((with_reducible refine ⟨?_, ?_⟩); first | ((with_reducible apply ldAt H 1); exact rfl; exact rfl; exact rfl) | ((with_reducible apply ldAt0 H 1); exact rfl; exact rfl; exact rfl)))
    (try refine ldAt H 1 rfl (⟨none, 0, 0⟩ : Sl) rfl ?_)
    refine h1 (fun hx => ?_) _ (H.drop 3)
    rw [hx.1, hx.2] at hb
    cases hb
  · repeat (first | with_reducible refine nn ?_ | with_reducible refine let_ ?_ | with_reducible refine brSome ?_ | with_reducible refine brF ?_ | with_reducible refine brT ?_ | ((with_reducible apply ldAt H 0); exact rfl; exact rfl) | ((with_reducible apply ldAt0 H 0); exact rfl; exact rfl) | ((with_reducible apply ldAt H 1); exact rfl; exact rfl) | ((with_reducible apply ldAt0 H 1); exact rfl; exact rfl) | ((with_reducible apply stAt H 0); exact rfl; exact rfl; intro h H; (try dsimp only [List.set] at H)) | ((with_reducible apply stAt0 H 0); exact rfl; exact rfl; intro h H; (try dsimp only [List.set] at H)) | ((with_reducible apply stAt H 1); exact rfl; exact rfl; intro h H; (try dsimp only [List.set] at H)) | ((with_reducible apply stAt0 H 1); exact rfl; exact rfl; intro h H; (try dsimp only [List.set] at H)) | ((with_reducible apply allocAt H); intro h b H) | ((with_reducible refine ⟨?_, ?_⟩); first | ((with_reducible apply ldAt H 0); exact rfl; exact rfl; exact rfl) | ((with_reducible apply ldAt0 H 0); exact rfl; exact rfl; exact rfl) | ((with_reducible apply ldAt H 1); exact rfl; exact rfl; exact rfl) | ((with_reducible apply ldAt0 H 1); exact rfl; exact rfl; exact rfl)))
    (try refine ldAt H 0 rfl (⟨none, 0, 0⟩ : Sl) rfl ?_)
    refine h2 ?_ _ (H.drop 2)
    cases bad with
    | true => cases hb
    | false => exact ⟨rfl, by simpa using hb⟩
set_option maxHeartbeats 2000000 in
theorem wire_ReadMessage_ok {R : KL [.int .i64, .int .i64, .int .i64, .int .i64, .int .i64, .int .i64, .int .i64, .bool, .sl] → Int → Heap → Prop} (hb : RdS hB 1 b (cB l)) (hbc : b.n ≤ b.c)
    (h1 : msgR l = none → ∀ h', Ext hB.size hB h' → R (0, 0, 0, 0, 0, 0, 0, false, ⟨none, 0, 0⟩, ()) 2 h')
    (h2 : ∀ m, msgR l = some m → ∀ out h', Own h' 2 out (eEN.fl m.es) → out.from_ hB.size → Ext hB.size hB h' → R (m.kind, m.frm, m.to, m.term, m.index, m.lterm, m.commit, m.yes, out, ()) 0 h') : C_wire_ReadMessage b hB R := by
  refine A_wire_ReadMessage ?_
  unfold S_wire_ReadMessage
  have hsr : ∀ p F, Src hB p F b l := fun p F h' ty cs H => H.arg hb
  refine allocAt (At.start hB) fun hc1 p1 H => word_Read_ok H fun pr tyr hc2 H => ?_
  refine wire_some_ok (n := 7) (by decide) H (RdF.self (H.arg hb) hbc) (fun h' L H => H.arg hb) fun sl h3 s3 H r3 => ?_
  rw [nst7, nvs7] at H
  rw [nst7] at r3
  refine ixAt (E := eNU) H 1 rfl 0 rfl (by simp) fun e0 g0 => ldEl0 (E := eNU) H 1 rfl g0 (by simp) (c1 l).2.2 rfl ?_
  refine ixAt (E := eNU) H 1 rfl 1 rfl (by simp) fun e1 g1 => ldEl0 (E := eNU) H 1 rfl g1 (by simp) (c2 l).2.2 rfl ?_
  refine ixAt (E := eNU) H 1 rfl 2 rfl (by simp) fun e2 g2 => ldEl0 (E := eNU) H 1 rfl g2 (by simp) (c3 l).2.2 rfl ?_
  refine ixAt (E := eNU) H 1 rfl 3 rfl (by simp) fun e3 g3 => ldEl0 (E := eNU) H 1 rfl g3 (by simp) (c4 l).2.2 rfl ?_
  refine ixAt (E := eNU) H 1 rfl 4 rfl (by simp) fun e4 g4 => ldEl0 (E := eNU) H 1 rfl g4 (by simp) (c5 l).2.2 rfl ?_
  refine ixAt (E := eNU) H 1 rfl 5 rfl (by simp) fun e5 g5 => ldEl0 (E := eNU) H 1 rfl g5 (by simp) (c6 l).2.2 rfl ?_
  refine ixAt (E := eNU) H 1 rfl 6 rfl (by simp) fun e6 g6 => ldEl0 (E := eNU) H 1 rfl g6 (by simp) (c7 l).2.2 rfl ?_
  refine allocAt H fun hc4 p2 H => ⟨ldEl0 (E := eNU) H 2 rfl g0 (by simp) (c1 l).2.2 rfl rfl, ldEl0 (E := eNU) H 2 rfl g1 (by simp) (c2 l).2.2 rfl rfl, ldEl0 (E := eNU) H 2 rfl g2 (by simp) (c3 l).2.2 rfl rfl, ldEl0 (E := eNU) H 2 rfl g3 (by simp) (c4 l).2.2 rfl rfl, ldEl0 (E := eNU) H 2 rfl g4 (by simp) (c5 l).2.2 rfl rfl, ldEl0 (E := eNU) H 2 rfl g5 (by simp) (c6 l).2.2 rfl rfl, ldEl0 (E := eNU) H 2 rfl g6 (by simp) (c7 l).2.2 rfl rfl, ?_⟩
  repeat (first | with_reducible refine nn ?_ | with_reducible refine let_ ?_ | with_reducible refine brSome ?_ | with_reducible refine brF ?_ | with_reducible refine brT ?_ | ((with_reducible apply ldAt H 0); exact rfl; exact rfl) | ((with_reducible apply ldAt0 H 0); exact rfl; exact rfl) | ((with_reducible apply stAt H 0); exact rfl; exact rfl; intro h H; (try dsimp only [List.set] at H)) | ((with_reducible apply stAt0 H 0); exact rfl; exact rfl; intro h H; (try dsimp only [List.set] at H)) | ((with_reducible apply allocAt H); intro h b H) | ((with_reducible refine ⟨?_, ?_⟩); first | ((with_reducible apply ldAt H 0); exact rfl; exact rfl; exact rfl) | ((with_reducible apply ldAt0 H 0); exact rfl; exact rfl; exact rfl)))
  refine boolE (T := mY l) rfl (H.mv 1 1) r3 (hsr _ _) fun h6 s6 H r6 => stAt H 1 rfl rfl fun h7 H => ?_
  (try dsimp only [List.set, List.take, List.drop, List.cons_append, List.nil_append, List.eraseIdx] at H)
  refine wire_list_ok rfl H r6 hsr fun out es h8 s8 bad' l' H r8 hcase => ?_
  have hcase : (bad' = true ∧ (mE l).1 = true) ∨ mE l = (bad', l', es) := hcase
  refine stAt H 2 rfl rfl fun h9 H => ?_
  (try dsimp only [List.set, List.take, List.drop, List.cons_append, List.nil_append, List.eraseIdx] at H)
  repeat (first | with_reducible refine nn ?_ | with_reducible refine let_ ?_ | with_reducible refine brSome ?_ | with_reducible refine brF ?_ | with_reducible refine brT ?_ | ((with_reducible apply ldAt H 2); exact rfl; exact rfl) | ((with_reducible apply ldAt0 H 2); exact rfl; exact rfl) | ((with_reducible apply stAt H 2); exact rfl; exact rfl; intro h H; (try dsimp only [List.set] at H)) | ((with_reducible apply stAt0 H 2); exact rfl; exact rfl; intro h H; (try dsimp only [List.set] at H)) | ((with_reducible apply allocAt H); intro h b H) | ((with_reducible refine ⟨?_, ?_⟩); first | ((with_reducible apply ldAt H 2); exact rfl; exact rfl; exact rfl) | ((with_reducible apply ldAt0 H 2); exact rfl; exact rfl; exact rfl)))
  refine wire_whole_Message_ok H r8 (fun hno h' H => ?_) fun hyes h' H => ?_
  · repeat (first | with_reducible refine nn ?_ | with_reducible refine let_ ?_ | with_reducible refine brSome ?_ | with_reducible refine brF ?_ | with_reducible refine brT ?_ | ((with_reducible apply ldAt H 4); exact rfl; exact rfl) | ((with_reducible apply ldAt0 H 4); exact rfl; exact rfl) | ((with_reducible apply stAt H 4); exact rfl; exact rfl; intro h H; (try dsimp only [List.set] at H)) | ((with_reducible apply stAt0 H 4); exact rfl; exact rfl; intro h H; (try dsimp only [List.set] at H)) | ((with_reducible apply allocAt H); intro h b H) | ((with_reducible refine ⟨?_, ?_⟩); first | ((with_reducible apply ldAt H 4); exact rfl; exact rfl; exact rfl) | ((with_reducible apply ldAt0 H 4); exact rfl; exact rfl; exact rfl)))
    (try refine ldAt H 4 rfl (⟨none, 0, 0⟩ : Sl) rfl ?_)
    refine h1 (if_neg fun hh => ?_) _ H.ext
    rcases hcase with ⟨_, h⟩ | h
    · rw [h] at hh; cases hh.1
    · rw [h] at hh; exact hno hh
  · repeat (first | with_reducible refine nn ?_ | with_reducible refine let_ ?_ | with_reducible refine brSome ?_ | with_reducible refine brF ?_ | with_reducible refine brT ?_ | ((with_reducible apply ldAt H 4); exact rfl; exact rfl) | ((with_reducible apply ldAt0 H 4); exact rfl; exact rfl) | ((with_reducible apply stAt H 4); exact rfl; exact rfl; intro h H; (try dsimp only [List.set] at H)) | ((with_reducible apply stAt0 H 4); exact rfl; exact rfl; intro h H; (try dsimp only [List.set] at H)) | ((with_reducible apply allocAt H); intro h b H) | ((with_reducible refine ⟨?_, ?_⟩); first | ((with_reducible apply ldAt H 4); exact rfl; exact rfl; exact rfl) | ((with_reducible apply ldAt0 H 4); exact rfl; exact rfl; exact rfl)))
    (try refine ldAt H 4 rfl (⟨none, 0, 0⟩ : Sl) rfl ?_)
    have hE : mE l = (false, [], es) := by
      rcases hcase with ⟨h, _⟩ | h
      · rw [hyes.1] at h; cases h
      · rw [h, hyes.1, hyes.2]
    have hm : msgR l = some (msgV l) := if_pos ⟨by rw [hE], by rw [hE]⟩
    have he : (msgV l).es = es := by show (mE l).2.2 = es; rw [hE]
    exact h2 (msgV l) hm out _ (by rw [he]; exact H.own 1 rfl) (H.from_ 1 rfl) H.ext
set_option maxHeartbeats 2000000 in
theorem ref18_ReadMessage_ok {R : KL [.int .i64, .int .i64, .int .i64, .int .i64, .int .i64, .int .i64, .int .i64, .bool, .sl] → Bool → Heap → Prop}
    (h1 : msgR l = none → ∀ h', Ext hB.size hB h' → R (0, 0, 0, 0, 0, 0, 0, false, ⟨none, 0, 0⟩, ()) false h')
    (h2 : ∀ m, msgR l = some m → ∀ out h', Own h' 2 out (eEN.fl m.es) → out.from_ hB.size → Ext hB.size hB h' → R (m.kind, m.frm, m.to, m.term, m.index, m.lterm, m.commit, m.yes, out, ()) true h') : C_ref18_ReadMessage (strB l) hB R := by
  refine A_ref18_ReadMessage ?_
  unfold S_ref18_ReadMessage
  refine allocAt ((At.start hB).nil 2) fun hc1 p1 H => allocAt H fun hc2 pr H => allocAt H fun hc3 p2 H => ?_
  repeat (first | with_reducible refine nn ?_ | with_reducible refine let_ ?_ | with_reducible refine brSome ?_ | with_reducible refine brF ?_ | with_reducible refine brT ?_ | ((with_reducible apply ldAt H 0); exact rfl; exact rfl) | ((with_reducible apply ldAt0 H 0); exact rfl; exact rfl) | ((with_reducible apply stAt H 0); exact rfl; exact rfl; intro h H; (try dsimp only [List.set] at H)) | ((with_reducible apply stAt0 H 0); exact rfl; exact rfl; intro h H; (try dsimp only [List.set] at H)) | ((with_reducible apply allocAt H); intro h b H) | ((with_reducible refine ⟨?_, ?_⟩); first | ((with_reducible apply ldAt H 0); exact rfl; exact rfl; exact rfl) | ((with_reducible apply ldAt0 H 0); exact rfl; exact rfl; exact rfl)))
  rename Heap => hw
  have H : At hB hw (qrd pr _ l false :: _) := H.mv 1 1
  refine intQ (T := c1 l) rfl H fun h4 H => stAt0 H 1 rfl rfl fun h5 H => intQ (T := c2 l) rfl H fun h6 H => stAt H 1 rfl rfl fun h7 H => intQ (T := c3 l) rfl H fun h8 H => stAt H 1 rfl rfl fun h9 H => ?_
  (try dsimp only [List.set, List.take, List.drop, List.cons_append, List.nil_append, List.eraseIdx] at H)
  refine intQ (T := c4 l) rfl H fun h4 H => stAt H 1 rfl rfl fun h5 H => intQ (T := c5 l) rfl H fun h6 H => stAt H 1 rfl rfl fun h7 H => intQ (T := c6 l) rfl H fun h8 H => stAt H 1 rfl rfl fun h9 H => ?_
  (try dsimp only [List.set, List.take, List.drop, List.cons_append, List.nil_append, List.eraseIdx] at H)
  refine intQ (T := c7 l) rfl H fun h4 H => stAt H 1 rfl rfl fun h5 H => boolQ (T := mY l) rfl H fun h6 H => stAt H 1 rfl rfl fun h7 H => intQ (T := mN l) rfl H fun h14 H => ?_
  (try dsimp only [List.set, List.take, List.drop, List.cons_append, List.nil_append, List.eraseIdx] at H)
  have hrng : 0 ≤ (mN l).2.2 ∧ (mN l).2.2 ≤ 8 := mInt_rng (mY l).1 (mY l).2.1 8 (by decide)
  obtain ⟨n, hn⟩ : ∃ n : Nat, (mN l).2.2 = n := ⟨(mN l).2.2.toNat, by omega⟩
  have hnt : (mN l).2.2.toNat = n := by omega
  have hT0 : entsM n (mN l).1 (mN l).2.1 [] = mE l := by unfold mE; rw [hnt]
  have H : At hB h14 [qrd pr 152 (mN l).2.1 (mN l).1, .blk p2 81 [.int .i64 (c1 l).2.2, .int .i64 (c2 l).2.2, .int .i64 (c3 l).2.2, .int .i64 (c4 l).2.2, .int .i64 (c5 l).2.2, .int .i64 (c6 l).2.2, .int .i64 (c7 l).2.2, .bool (mY l).2.2, .slice none 0 0], .blk p1 81 [.int .i64 0, .int .i64 0, .int .i64 0, .int .i64 0, .int .i64 0, .int .i64 0, .int .i64 0, .bool false, .slice none 0 0], .own ⟨none, 0, 0⟩ 2 (eEN.fl [])] := H
  rw [hn]
  refine loop1 (s1 := .one (.int .i64)) (fun (x : Int) h2 => ∃ (k : Nat) (es : List Ent) (bad' : Bool) (l' : List UInt8) (sl : Sl), x = k ∧ k ≤ n ∧ es.length ≤ k ∧ At hB h2 [qrd pr 152 l' bad', .blk p2 81 [.int .i64 (c1 l).2.2, .int .i64 (c2 l).2.2, .int .i64 (c3 l).2.2, .int .i64 (c4 l).2.2, .int .i64 (c5 l).2.2, .int .i64 (c6 l).2.2, .int .i64 (c7 l).2.2, .bool (mY l).2.2, .slice sl.a sl.n sl.c], .blk p1 81 [.int .i64 0, .int .i64 0, .int .i64 0, .int .i64 0, .int .i64 0, .int .i64 0, .int .i64 0, .bool false, .slice none 0 0], .own sl 2 (eEN.fl es)] ∧ entsM (n - k) bad' l' es = mE l) (fun (x : Int) _ => (n - x).toNat)
    ⟨0, [], _, _, ⟨none, 0, 0⟩, rfl, Nat.zero_le _, Nat.le_refl _, H, hT0⟩ fun _ (x : Int) h2' hI => ?_
  obtain ⟨k, es, bad', l', sl, rfl, hk, hel, H, hT⟩ := hI
  refine brD (fun hc => ?_) fun hc => ?_
  · obtain ⟨j, hj⟩ : ∃ j, n - k = j + 1 := ⟨n - k - 1, by omega⟩
    rw [hj] at hT
    refine intQ (T := rI bad' l') rfl H fun h4 H => ldAt H 1 rfl sl rfl (textQ (T := entT bad' l') rfl H fun h5 H => ⟨ldAt H 1 rfl sl rfl rfl, allocAt H fun h6 b6 H => ⟨ldAt H 2 rfl sl rfl rfl, ?_⟩⟩)
    refine app1B (E := eEN) TEN H 4 rfl 0 rfl ⟨(rI bad' l').2.2, (entT bad' l').2.2⟩ rfl (by omega) (by omega) fun s7 h7 H => stAt H 2 rfl rfl fun h8 H => let_ ?_
    rw [w64 (by omega) (by omega)]
    refine ⟨⟨k + 1, _, _, _, s7, by omega, by omega, by rw [List.length_append]; simp; omega, H.tail, ?_⟩, by omega⟩
    rw [show n - (k + 1) = j by omega]
    exact hT
  · obtain rfl : k = n := by omega
    rw [Nat.sub_self] at hT
    have hT : mE l = (bad', l', es) := hT.symm
    refine nn (ldAt H 0 rfl bad' rfl (brB (fun hb => ?_) fun hb => nn (ldAt0 H 0 rfl (strB l') rfl ?_)))
    · repeat (first | with_reducible refine nn ?_ | with_reducible refine let_ ?_ | with_reducible refine brSome ?_ | with_reducible refine brF ?_ | with_reducible refine brT ?_ | ((with_reducible apply ldAt H 2); exact rfl; exact rfl) | ((with_reducible apply ldAt0 H 2); exact rfl; exact rfl) | ((with_reducible apply stAt H 2); exact rfl; exact rfl; intro h H; (try dsimp only [List.set] at H)) | ((with_reducible apply stAt0 H 2); exact rfl; exact rfl; intro h H; (try dsimp only [List.set] at H)) | ((with_reducible apply allocAt H); intro h b H) | ((with_reducible refine ⟨?_, ?_⟩); first | ((with_reducible apply ldAt H 2); exact rfl; exact rfl; exact rfl) | ((with_reducible apply ldAt0 H 2); exact rfl; exact rfl; exact rfl)))
      (try refine ldAt H 2 rfl (⟨none, 0, 0⟩ : Sl) rfl ?_)
      exact h1 (if_neg fun h => by rw [hT, hb] at h; cases h.1) _ H.ext
    · rw [strB_toList, show (⟨#[]⟩ : ByteArray).toList = [] from strB_toList []]
      refine brB (fun hx => ?_) fun hx => ?_
      · repeat (first | with_reducible refine nn ?_ | with_reducible refine let_ ?_ | with_reducible refine brSome ?_ | with_reducible refine brF ?_ | with_reducible refine brT ?_ | ((with_reducible apply ldAt H 2); exact rfl; exact rfl) | ((with_reducible apply ldAt0 H 2); exact rfl; exact rfl) | ((with_reducible apply stAt H 2); exact rfl; exact rfl; intro h H; (try dsimp only [List.set] at H)) | ((with_reducible apply stAt0 H 2); exact rfl; exact rfl; intro h H; (try dsimp only [List.set] at H)) | ((with_reducible apply allocAt H); intro h b H) | ((with_reducible refine ⟨?_, ?_⟩); first | ((with_reducible apply ldAt H 2); exact rfl; exact rfl; exact rfl) | ((with_reducible apply ldAt0 H 2); exact rfl; exact rfl; exact rfl)))
        (try refine ldAt H 2 rfl (⟨none, 0, 0⟩ : Sl) rfl ?_)
        exact h1 (if_neg fun h => by rw [hT] at h; have h2 : l' = [] := h.2; rw [h2] at hx; cases hx) _ H.ext
      · have hx : l' = [] := by simpa using hx
        repeat (first | with_reducible refine nn ?_ | with_reducible refine let_ ?_ | with_reducible refine brSome ?_ | with_reducible refine brF ?_ | with_reducible refine brT ?_ | ((with_reducible apply ldAt H 1); exact rfl; exact rfl) | ((with_reducible apply ldAt0 H 1); exact rfl; exact rfl) | ((with_reducible apply ldAt H 2); exact rfl; exact rfl) | ((with_reducible apply ldAt0 H 2); exact rfl; exact rfl) | ((with_reducible apply stAt H 1); exact rfl; exact rfl; intro h H; (try dsimp only [List.set] at H)) | ((with_reducible apply stAt0 H 1); exact rfl; exact rfl; intro h H; (try dsimp only [List.set] at H)) | ((with_reducible apply stAt H 2); exact rfl; exact rfl; intro h H; (try dsimp only [List.set] at H)) | ((with_reducible apply stAt0 H 2); exact rfl; exact rfl; intro h H; (try dsimp only [List.set] at H)) | ((with_reducible apply allocAt H); intro h b H) | ((with_reducible refine ⟨?_, ?_⟩); first | ((with_reducible apply ldAt H 1); exact rfl; exact rfl; exact rfl) | ((with_reducible apply ldAt0 H 1); exact rfl; exact rfl; exact rfl) | ((with_reducible apply ldAt H 2); exact rfl; exact rfl; exact rfl) | ((with_reducible apply ldAt0 H 2); exact rfl; exact rfl; exact rfl)))
        have hm : msgR l = some (msgV l) := if_pos ⟨by rw [hT]; exact hb, by rw [hT]; exact hx⟩
        have he : (msgV l).es = es := by show (mE l).2.2 = es; rw [hT]
        exact h2 (msgV l) hm sl _ (by rw [he]; exact H.own 3 rfl) (H.from_ 3 rfl) H.ext
theorem ref18_Same_ok {k1 t1 a1 s1 o1 m1 n1 k2 t2 a2 s2 o2 m2 n2 : Int} {y1 y2 : Bool} {u1 u2 : Sl} {e1 e2 : List Ent} {R : Bool → Heap → Prop} (h1 : RdS hB 2 u1 (eEN.fl e1)) (h2 : RdS hB 2 u2 (eEN.fl e2)) (hl : e1.length ≤ 1000000000000000)
    (hR : ∀ (w : Bool) h', Ext hB.size hB h' → ((⟨k1, t1, a1, s1, o1, m1, n1, y1, e1⟩ : Msg) = ⟨k2, t2, a2, s2, o2, m2, n2, y2, e2⟩ → w = true) → R w h') :
    C_ref18_Same (k1, t1, a1, s1, o1, m1, n1, y1, u1, ()) (k2, t2, a2, s2, o2, m2, n2, y2, u2, ()) hB R := by
  refine A_ref18_Same ?_
  unfold S_ref18_Same
  have hn1 := rdn h1
  have hn2 := rdn h2
  have no : ∀ h', Ext hB.size hB h' → ¬ ((⟨k1, t1, a1, s1, o1, m1, n1, y1, e1⟩ : Msg) = ⟨k2, t2, a2, s2, o2, m2, n2, y2, e2⟩) → R false h' := fun h' e hne => hR false h' e fun x => absurd x hne
  refine allocAt (At.start hB) fun h1' p1 H => allocAt H fun h2' p2 H => ?_
  refine ldAt H 1 rfl u1 rfl (ldAt H 0 rfl u2 rfl (brB (fun hb => no _ H.ext fun x => by
    injection x with _ _ _ _ _ _ _ _ x9
    rw [bne_iff_ne] at hb; apply hb; rw [hn1, hn2, x9]) fun c3 => ldAt H 1 rfl u1 rfl ?_))
  rw [bne_eq_false_iff_eq] at c3
  have hlen : e1.length = e2.length := by omega
  refine loop1 (s1 := .one (.int .i64)) (fun (x : Int) h3 => ∃ k : Nat, x = k ∧ k ≤ e1.length ∧ h3 = h2') (fun (x : Int) _ => (e1.length - x).toNat)
    ⟨0, rfl, Nat.zero_le _, rfl⟩ fun _ (x : Int) h3 hI => ?_
  obtain ⟨k, rfl, hk, rfl⟩ := hI
  refine brD (fun hc => ?_) fun hc => ?_
  · have hk1 : k < e1.length := by omega
    have hk2 : k < e2.length := by omega
    refine ldAt H 1 rfl u1 rfl (ixR (H.arg h1) k rfl hk1 fun e he => ldR0 (H.arg h1) he hk1 e1[k].t rfl (ldR (H.arg h1) he hk1 (strB e1[k].d) rfl ?_))
    refine ldAt H 0 rfl u2 rfl (ixR (H.arg h2) k rfl hk2 fun e he => ldR0 (H.arg h2) he hk2 e2[k].t rfl (ldR (H.arg h2) he hk2 (strB e2[k].d) rfl ?_))
    refine opNeq (us := eEN.cells e1[k]) (vs := eEN.cells e2[k]) (by kernel_rfl) (brB (fun hb => ?_) fun hb => ?_)
    · refine no _ H.ext fun x => ?_
      injection x with _ _ _ _ _ _ _ _ x9
      have : e1[k] = e2[k] := by
        have := congrArg (·[k]?) x9
        simpa [List.getElem?_eq_getElem hk1, List.getElem?_eq_getElem hk2] using this
      rw [(ent_eq _ _).2 this] at hb
      cases hb
    · rw [w64 (by omega) (by omega)]
      exact ⟨⟨k + 1, by omega, by omega, rfl⟩, by omega⟩
  · refine ldAt0 H 1 rfl k1 rfl (ldAt0 H 0 rfl k2 rfl (brB (fun _ => ?_) fun hb => no _ H.ext fun x => by injection x with x _ _ _ _ _ _ _ _; rw [x] at hb; simp at hb))
    refine ldAt H 1 rfl t1 rfl (ldAt H 0 rfl t2 rfl (brB (fun _ => ?_) fun hb => no _ H.ext fun x => by injection x with _ x _ _ _ _ _ _ _; rw [x] at hb; simp at hb))
    refine ldAt H 1 rfl a1 rfl (ldAt H 0 rfl a2 rfl (brB (fun _ => ?_) fun hb => no _ H.ext fun x => by injection x with _ _ x _ _ _ _ _ _; rw [x] at hb; simp at hb))
    refine ldAt H 1 rfl s1 rfl (ldAt H 0 rfl s2 rfl (brB (fun _ => ?_) fun hb => no _ H.ext fun x => by injection x with _ _ _ x _ _ _ _ _; rw [x] at hb; simp at hb))
    refine ldAt H 1 rfl o1 rfl (ldAt H 0 rfl o2 rfl (brB (fun _ => ?_) fun hb => no _ H.ext fun x => by injection x with _ _ _ _ x _ _ _ _; rw [x] at hb; simp at hb))
    refine ldAt H 1 rfl m1 rfl (ldAt H 0 rfl m2 rfl (brB (fun _ => ?_) fun hb => no _ H.ext fun x => by injection x with _ _ _ _ _ x _ _ _; rw [x] at hb; simp at hb))
    refine ldAt H 1 rfl n1 rfl (ldAt H 0 rfl n2 rfl (brB (fun _ => ?_) fun hb => no _ H.ext fun x => by injection x with _ _ _ _ _ _ x _ _; rw [x] at hb; simp at hb))
    refine ldAt H 1 rfl y1 rfl (ldAt H 0 rfl y2 rfl (hR _ _ H.ext fun x => by injection x with _ _ _ _ _ _ _ x _; rw [x]; simp))
theorem wire_Message_ok {k t a st op mo cm : Int} {y : Bool} {R : Sl → Int → Heap → Prop} (hr : RdS hB 2 sl (eEN.fl es)) (hl : es.length ≤ 1000000000000000)
    (h1 : ¬ Msg.fits ⟨k, t, a, st, op, mo, cm, y, es⟩ → ∀ h', Ext hB.size hB h' → R ⟨none, 0, 0⟩ 4 h')
    (h2 : Msg.fits ⟨k, t, a, st, op, mo, cm, y, es⟩ → ∀ s h', Own h' 1 s (cB (msgB ⟨k, t, a, st, op, mo, cm, y, es⟩)) → s.from_ hB.size → Ext hB.size hB h' → R s 0 h') :
    C_wire_Message (k, t, a, st, op, mo, cm, y, sl, ()) hB R := by
  refine A_wire_Message ?_
  unfold S_wire_Message
  have hn := rdn hr
  refine allocAt (At.start hB) fun hc1 p1 H => ldAt H 0 rfl sl rfl ?_
  refine brD (fun hc => h1 (fun hf => by have h := hf.1; simp only at h; omega) _ H.ext) fun hc8 => ?_
  refine ldAt0 H 0 rfl k rfl (ldAt H 0 rfl t rfl (ldAt H 0 rfl a rfl (ldAt H 0 rfl st rfl (ldAt H 0 rfl op rfl (ldAt H 0 rfl mo rfl (ldAt H 0 rfl cm rfl (allocAt H fun hc3 p2 H => ?_)))))))
  refine wire_numbers_ok (ns := [k, t, a, st, op, mo, cm]) (xs := []) (H.nil 1) 0 rfl (by decide) (by simp) fun s4 h4 H => ?_
  refine ldAt H 2 rfl y rfl (ldAt H 2 rfl sl rfl ?_)
  refine wBoolA H 0 rfl (by simp [be8_length] <;> omega) fun s5 h5 H => ⟨ldAt H 2 rfl sl rfl rfl, ?_⟩
  refine wIntA H 0 rfl (by simp [be8_length, tru] <;> omega) fun s6 h6 H => ldAt H 2 rfl sl rfl ?_
  generalize hpre : [] ++ [k, t, a, st, op, mo, cm].flatMap be8 ++ tru y ++ be8 (sl.n : Int) = pre at *
  have hpl : pre.length ≤ 100 := by rw [← hpre]; simp [be8_length, tru]
  rw [hn] at hpre
  have H : At hB h6 [.own s6 1 (cB pre), .blk p2 3 (eNU.fl [k, t, a, st, op, mo, cm]), .blk p1 81 [.int .i64 k, .int .i64 t, .int .i64 a, .int .i64 st, .int .i64 op, .int .i64 mo, .int .i64 cm, .bool y, .slice sl.a sl.n sl.c]] := H
  refine loop2 (s1 := .one .sl) (s2 := .one (.int .i64)) (fun (s1 : Sl) (x : Int) h7 => ∃ j : Nat, x = j ∧ j ≤ es.length ∧ At hB h7 [.own s1 1 (cB (pre ++ (es.take j).flatMap entB)), .blk p2 3 (eNU.fl [k, t, a, st, op, mo, cm]), .blk p1 81 [.int .i64 k, .int .i64 t, .int .i64 a, .int .i64 st, .int .i64 op, .int .i64 mo, .int .i64 cm, .bool y, .slice sl.a sl.n sl.c]] ∧ ∀ e ∈ es.take j, e.fits) (fun _ (x : Int) _ => (es.length - x).toNat)
    ⟨0, rfl, Nat.zero_le _, by rw [List.take_zero, List.flatMap_nil, List.append_nil]; exact H, (fun e he => by cases he)⟩ fun _ (s1 : Sl) (x : Int) h7 hI => ?_
  obtain ⟨j, rfl, hj, H, hfit⟩ := hI
  refine brD (fun hc => ?_) fun hc => ?_
  · have hj2 : j < es.length := by omega
    refine ixR (H.arg hr) j rfl hj2 fun e he => ?_
    repeat (first | with_reducible refine nn ?_ | with_reducible refine let_ ?_ | with_reducible refine brSome ?_ | with_reducible refine brF ?_ | with_reducible refine brT ?_ | ((with_reducible apply ldAt H 0); exact rfl; exact rfl) | ((with_reducible apply ldAt0 H 0); exact rfl; exact rfl) | ((with_reducible apply ldR (H.arg hr)); assumption; (case hk => assumption); exact rfl) | ((with_reducible apply ldR0 (H.arg hr)); assumption; (case hk => assumption); exact rfl) | ((with_reducible apply stAt H 0); exact rfl; exact rfl; intro h H; (try dsimp only [List.set] at H)) | ((with_reducible apply stAt0 H 0); exact rfl; exact rfl; intro h H; (try dsimp only [List.set] at H)) | ((with_reducible apply allocAt H); intro h b H) | ((with_reducible refine ⟨?_, ?_⟩); first | ((with_reducible apply ldAt H 0); exact rfl; exact rfl; exact rfl) | ((with_reducible apply ldAt0 H 0); exact rfl; exact rfl; exact rfl)))
    rw [strB_size]
    refine brD (fun hc2 => h1 (fun hf => ?_) _ H.ext) fun hc2 => ?_
    · have h : es[j].d.length ≤ 512 := hf.2 _ (List.getElem_mem hj2)
      omega
    have hfj : es[j].fits := by show es[j].d.length ≤ 512; omega
    refine ldAt0 H 0 rfl es[j].t rfl (ldAt H 0 rfl (strB es[j].d) rfl ?_)
    have hbl := entBs_len (es.take j)
    rw [List.length_take] at hbl
    have hbl2 : min j es.length * 65545 ≤ 8 * 65545 := Nat.mul_le_mul_right _ (by omega)
    refine wIntA H 1 rfl (by rw [List.length_append]; omega) fun s8 h8 H => ⟨ldAt H 0 rfl (strB es[j].d) rfl rfl, ?_⟩
    refine wTextA H 1 rfl (by rw [List.length_append, List.length_append, be8_length]; omega) fun s9 h9 H => ?_
    rw [w64 (by omega) (by omega)]
    refine ⟨⟨j + 1, by omega, by omega, ?_, fa_snoc hfit hj2 hfj⟩, by omega⟩
    have e : pre ++ (es.take (j + 1)).flatMap entB = pre ++ (es.take j).flatMap entB ++ be8 es[j].t ++ txt es[j].d := by
      rw [take_snoc es j hj2, List.flatMap_append]; simp [entB]
    rw [e]
    rw [strB_data] at H
    exact H.tail
  · have hjl : j = es.length := by omega
    subst hjl
    rw [List.take_length] at H hfit
    refine h2 ⟨by show es.length ≤ 8; omega, hfit⟩ s1 h7 ?_ (H.from_ 0 rfl) H.ext
    have ho := H.own 0 rfl
    have e : pre ++ es.flatMap entB = msgB ⟨k, t, a, st, op, mo, cm, y, es⟩ := by rw [← hpre]; simp [msgB]
    rw [← e]
    exact ho
theorem ref18_Message_ok {k t a st op mo cm : Int} {y : Bool} {R : ByteArray → Bool → Heap → Prop} (hr : RdS hB 2 sl (eEN.fl es)) (hl : es.length ≤ 1000000) (hd : ∀ e ∈ es, e.d.length ≤ 1000000)
    (hR : ∀ v h', Ext hB.size hB h' → (v = true ↔ Msg.fits ⟨k, t, a, st, op, mo, cm, y, es⟩) → R (strB (msgB ⟨k, t, a, st, op, mo, cm, y, es⟩)) v h') :
    C_ref18_Message (k, t, a, st, op, mo, cm, y, sl, ()) hB R := by
  refine A_ref18_Message ?_
  unfold S_ref18_Message
  have hn := rdn hr
  refine allocAt (At.start hB) fun hc1 p1 H => ?_
  refine ldAt0 H 0 rfl k rfl (ldAt H 0 rfl t rfl (ldAt H 0 rfl a rfl (ldAt H 0 rfl st rfl (ldAt H 0 rfl op rfl (ldAt H 0 rfl mo rfl (ldAt H 0 rfl cm rfl (allocAt H fun hc3 p2 H => ?_)))))))
  have H : At hB hc3 [.blk p2 3 (eNU.fl [k, t, a, st, op, mo, cm]), .blk p1 81 [.int .i64 k, .int .i64 t, .int .i64 a, .int .i64 st, .int .i64 op, .int .i64 mo, .int .i64 cm, .bool y, .slice sl.a sl.n sl.c]] := H
  have hns : ([k, t, a, st, op, mo, cm] : List Int).length = 7 := rfl
  generalize hnse : ([k, t, a, st, op, mo, cm] : List Int) = ns at *
  refine loop2 (s1 := .one .str) (s2 := .one (.int .i64)) (fun (out : ByteArray) (x : Int) h3 => ∃ j : Nat, x = j ∧ j ≤ 7 ∧ out = strB ((ns.take j).flatMap be8) ∧ At hB h3 [.blk p2 3 (eNU.fl ns), .blk p1 81 [.int .i64 k, .int .i64 t, .int .i64 a, .int .i64 st, .int .i64 op, .int .i64 mo, .int .i64 cm, .bool y, .slice sl.a sl.n sl.c]]) (fun _ (x : Int) _ => (7 - x).toNat)
    ⟨0, rfl, by decide, rfl, H⟩ fun _ (out : ByteArray) (x : Int) h3 hI => ?_
  obtain ⟨j, rfl, hj, rfl, H⟩ := hI
  refine brD (fun hc => ?_) fun hc => ?_
  · have hj2 : j < ns.length := by omega
    have hb : Blk h3 p2 _ (eNU.fl ns) := H.get 0 rfl
    have hr2 : RdS h3 1 ⟨some ⟨p2, 0, none⟩, 7, 7⟩ (eNU.fl ns) := (Own.full hb (sz := 1) (n := 7) (by rw [eNU.fl_len, hns]) (by decide)).rd
    refine ixR hr2 j rfl hj2 fun e he => ldR0 hr2 he hj2 ns[j] rfl (ref01_IntP fun h4 e4 => cat ?_ ?_)
    · rw [strB_size, strB_size, be8s_len, be8_length, List.length_take]; omega
    · rw [strB_append, w64 (by omega) (by omega)]
      refine ⟨⟨j + 1, by omega, by omega, ?_, H.ext' e4⟩, by omega⟩
      rw [take_snoc ns j hj2, List.flatMap_append]; simp
  · obtain rfl : j = 7 := by omega
    rw [List.take_of_length_le (by omega)]
    have hfl := be8s_len ns
    refine ldAt H 1 rfl y rfl (ldAt H 1 rfl sl rfl (ref01_BoolP fun h4 e4 => ?_))
    have H := H.ext' e4
    have htru : (tru y).length = 1 := rfl
    refine ⟨ldAt H 1 rfl sl rfl rfl, cat (by rw [strB_size, strB_size]; omega) (ref01_IntP fun h5 e5 => cat (by rw [strB_append, strB_size, strB_size, List.length_append, be8_length]; omega) ?_)⟩
    have H := H.ext' e5
    rw [strB_append, strB_append, hn]
    generalize hpre : ns.flatMap be8 ++ tru y ++ be8 (es.length : Int) = pre at *
    have hpl : pre.length ≤ 100 := by rw [← hpre, List.length_append, List.length_append, be8_length]; omega
    refine ldAt H 1 rfl sl rfl (let_ (ldAt H 1 rfl sl rfl ?_))
    refine loop3 (s1 := .one .str) (s2 := .one .bool) (s3 := .one (.int .i64)) (fun (out : ByteArray) (ok : Bool) (x : Int) h7 => ∃ j : Nat, x = j ∧ j ≤ es.length ∧ out = strB (pre ++ (es.take j).flatMap entB) ∧ (ok = true ↔ es.length ≤ 8 ∧ ∀ e ∈ es.take j, e.fits) ∧ At hB h7 [.blk p2 3 (eNU.fl ns), .blk p1 81 [.int .i64 k, .int .i64 t, .int .i64 a, .int .i64 st, .int .i64 op, .int .i64 mo, .int .i64 cm, .bool y, .slice sl.a sl.n sl.c]]) (fun _ _ (x : Int) _ => (es.length - x).toNat)
      ⟨0, rfl, Nat.zero_le _, by rw [List.take_zero, List.flatMap_nil, List.append_nil], ?_, H⟩ fun _ (out : ByteArray) (ok : Bool) (x : Int) h7 hI => ?_
    · rw [decide_eq_true_eq, List.take_zero]
      exact ⟨fun h => ⟨by omega, fun e he => by cases he⟩, fun h => by omega⟩
    obtain ⟨j, rfl, hj, rfl, hok, H⟩ := hI
    refine brD (fun hc => ?_) fun hc => ?_
    · have hj2 : j < es.length := by omega
      have hdj := hd _ (List.getElem_mem hj2)
      refine ixR (H.arg hr) j rfl hj2 fun e he => ?_
      repeat (first | with_reducible refine nn ?_ | with_reducible refine let_ ?_ | with_reducible refine brSome ?_ | with_reducible refine brF ?_ | with_reducible refine brT ?_ | ((with_reducible apply ldAt H 0); exact rfl; exact rfl) | ((with_reducible apply ldAt0 H 0); exact rfl; exact rfl) | ((with_reducible apply ldR (H.arg hr)); assumption; (case hk => assumption); exact rfl) | ((with_reducible apply ldR0 (H.arg hr)); assumption; (case hk => assumption); exact rfl) | ((with_reducible apply stAt H 0); exact rfl; exact rfl; intro h H; (try dsimp only [List.set] at H)) | ((with_reducible apply stAt0 H 0); exact rfl; exact rfl; intro h H; (try dsimp only [List.set] at H)) | ((with_reducible apply allocAt H); intro h b H) | ((with_reducible refine ⟨?_, ?_⟩); first | ((with_reducible apply ldAt H 0); exact rfl; exact rfl; exact rfl) | ((with_reducible apply ldAt0 H 0); exact rfl; exact rfl; exact rfl)))
      have hbl := entBs_len (es.take j)
      rw [List.length_take] at hbl
      have hbl2 : min j es.length * 65545 ≤ 1000000 * 65545 := Nat.mul_le_mul_right _ (by omega)
      have htx := txt_length es[j].d
      refine ref01_IntP fun h8 e8 => ?_
      have H := H.ext' e8
      refine ⟨ldAt H 0 rfl (strB es[j].d) rfl rfl, cat (by rw [strB_size, strB_size, List.length_append, be8_length]; omega) (ref01_TextP (by rw [strB_size]; omega) fun h9 e9 => cat (by
        rw [strB_append, strB_data, strB_size, strB_size, List.length_append, List.length_append, be8_length]; omega) ?_)⟩
      have H := H.ext' e9
      rw [strB_append, strB_data, strB_append]
      have e : pre ++ (es.take j).flatMap entB ++ be8 es[j].t ++ txt es[j].d = pre ++ (es.take (j + 1)).flatMap entB := by
        rw [take_snoc es j hj2, List.flatMap_append]; simp [entB]
      rw [e, w64 (n := (j : Int) + 1) (by omega) (by omega)]
      cases ok with
      | true =>
        obtain ⟨o1, o2⟩ := hok.1 rfl
        refine brT (ldAt H 0 rfl (strB es[j].d) rfl (let_ ?_))
        rw [strB_size]
        refine ⟨⟨j + 1, by omega, by omega, rfl, ?_, H.tail⟩, by omega⟩
        rw [decide_eq_true_eq]
        constructor
        · intro h; exact ⟨o1, fa_snoc o2 hj2 (by show es[j].d.length ≤ 512; omega)⟩
        · intro h
          have : es[j].d.length ≤ 512 := h.2 es[j] (by rw [take_snoc es j hj2]; exact List.mem_append_right _ (List.mem_singleton.2 rfl))
          omega
      | false =>
        refine brF ⟨⟨j + 1, by omega, by omega, rfl, ⟨(fun x => by cases x), fun h => ?_⟩, H.tail⟩, by omega⟩
        refine hok.2 ⟨h.1, fun x hx => h.2 x ?_⟩
        rw [take_snoc es j hj2]
        exact List.mem_append_left _ hx
    · have hjl : j = es.length := by omega
      subst hjl
      rw [List.take_length] at hok ⊢
      have e : pre ++ es.flatMap entB = msgB ⟨k, t, a, st, op, mo, cm, y, es⟩ := by rw [← hpre, ← hnse]; simp [msgB]
      rw [e]
      exact hR ok h7 H.ext hok
end
end Go.Proofs.Ytnognoiaakiepaa
