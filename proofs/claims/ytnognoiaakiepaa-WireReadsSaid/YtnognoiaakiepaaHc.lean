/-
  Layer 6 (hard): contracts of writing a save, of playing records, and of recovering; the document's playing.
-/
import Derived.Test.YtnognoiaakiepaaHb
namespace Go.Proofs.Ytnognoiaakiepaa
open Go

section
variable {h0 hB h : Heap} {L F : List Res} {d p pr : Nat} {ty tyr : TypeId} {s sd rs_ q l : Sl} {b : List UInt8} {n : Nat} {es : List Ent} {bs : List BR} {rs : List WRec} {st : Stt} {l0 xs : List UInt8}
theorem recsM_cnt (l : List WRec) : l.length ≤ (recsM l).length := by
  induction l with
  | nil => exact Nat.zero_le _
  | cons r l ih =>
    have := recM_length r
    rw [recsM_cons, List.length_append, List.length_cons]
    omega
theorem hard_Write_ok {a : Bool} {t v f : Int} {R : Int → Heap → Prop} (H : At h0 hB (diskL d ty sd b n ++ F)) (hr : RdS hB 2 s (eEN.fl es)) (hl : es.length ≤ 1000000) (hok : ∀ r ∈ savR ⟨a, t, v, f, es⟩, r.ok) (hsz : b.length + (recsM (savR ⟨a, t, v, f, es⟩)).length ≤ 1048576)
    (hR : ∀ h' s', At h0 h' (diskL d ty s' (b ++ recsM (savR ⟨a, t, v, f, es⟩)) n ++ F) → R 0 h') : C_hard_Write (some ⟨d, 0, none⟩) (a, t, v, f, s, ()) hB R := by
  refine A_hard_Write ?_
  unfold S_hard_Write
  refine alloc fun h1 b1 e1 z1 => ldB b1 a rfl (ldF b1 t rfl (ldF b1 v rfl (ldF b1 f rfl (ldF b1 s rfl ?_))))
  refine hard_Records_ok (hr.ext' e1) hl fun out bs h2 w hcp hbs e2 => ?_
  have hbl : bs.length = (savR ⟨a, t, v, f, es⟩).length := by rw [← hbs, List.length_map]
  generalize savR ⟨a, t, v, f, es⟩ = rs at *
  have hn := rdn w.1
  have H := ((H.ext' e1).newW e2 w).mv 1 2
  have hbl2 := recsM_cnt rs
  refine loop1 (s1 := .one (.int .i64)) (fun (x : Int) h3 => ∃ (k : Nat) (s' : Sl), x = k ∧ k ≤ bs.length ∧ At h0 h3 (diskL d ty s' (b ++ recsM (rs.take k)) n ++ (resW out bs :: F))) (fun (x : Int) _ => (bs.length - x).toNat)
    ⟨0, sd, rfl, Nat.zero_le _, by rw [List.take_zero]; show At h0 h2 (diskL d ty sd (b ++ []) n ++ (resW out bs :: F)); rw [List.append_nil]; exact H⟩ fun _ (x : Int) h3 hI => ?_
  obtain ⟨k, s', rfl, hk, H⟩ := hI
  refine brD (fun hc => ?_) fun hc => ?_
  · have hk2 : k < bs.length := by omega
    have hk3 : k < rs.length := by omega
    have hge : rs[k] = ⟨bs[k].kind, bs[k].xs⟩ := by
      have : (bs.map BR.rec_)[k]? = rs[k]? := by rw [hbs]
      rw [List.getElem?_map, List.getElem?_eq_getElem hk2, List.getElem?_eq_getElem hk3] at this
      exact (Option.some.inj this).symm
    have hokk : WRec.ok ⟨bs[k].kind, bs[k].xs⟩ := by rw [← hge]; exact hok _ (List.getElem_mem hk3)
    have hsp : (recsM (rs.take k)).length + (recM ⟨bs[k].kind, bs[k].xs⟩).length + (recsM (rs.drop (k + 1))).length = (recsM rs).length := by
      have e : rs = rs.take k ++ rs[k] :: rs.drop (k + 1) := by rw [← List.drop_eq_getElem_cons hk3, List.take_append_drop]
      conv => rhs; rw [e, recsM_app, recsM_cons, List.length_append, List.length_append, hge]
      omega
    have w3 : RdS h3 2 out (eBR.fl bs) ∧ ∀ a ∈ bs, RdS h3 1 a.s (cB a.xs) := H.get 2 rfl
    refine ixR w3.1 k rfl hk2 fun e he => ldR0 w3.1 he hk2 ((bs[k].kind.toNat : Nat) : Int) rfl (ldR w3.1 he hk2 bs[k].s rfl ?_)
    repeat (first | with_reducible refine nn ?_ | with_reducible refine let_ ?_ | with_reducible refine brSome ?_ | with_reducible refine brF ?_ | with_reducible refine brT ?_ | ((with_reducible apply ldAt H 0); exact rfl; exact rfl) | ((with_reducible apply ldAt0 H 0); exact rfl; exact rfl) | ((with_reducible apply stAt H 0); exact rfl; exact rfl; intro h H) | ((with_reducible apply stAt0 H 0); exact rfl; exact rfl; intro h H) | ((with_reducible apply allocAt H); intro h b H) | ((with_reducible refine ⟨?_, ?_⟩); first | ((with_reducible apply ldAt H 0); exact rfl; exact rfl; exact rfl) | ((with_reducible apply ldAt0 H 0); exact rfl; exact rfl; exact rfl)))
    have H := H.tail
    have w4 : RdS _ 2 out (eBR.fl bs) ∧ ∀ a ∈ bs, RdS _ 1 a.s (cB a.xs) := H.get 2 rfl
    refine wal_Append_ok H (w4.2 _ (List.getElem_mem hk2)) (by rw [List.length_append]; omega) (fun hno => absurd hokk hno) (fun _ hf => by rw [List.length_append] at hf; omega) fun _ _ h5 s5 H => brN rfl ?_
    rw [w64 (by omega) (by omega)]
    refine ⟨⟨k + 1, s5, by omega, by omega, ?_⟩, by omega⟩
    rw [take_snoc rs k hk3, hge, recsM_app, ← List.append_assoc]
    have e : recsM [⟨bs[k].kind, bs[k].xs⟩] = recM ⟨bs[k].kind, bs[k].xs⟩ := by simp [recsM]
    rw [e]
    exact H
  · have hkl : k = rs.length := by omega
    subst hkl
    rw [List.take_length] at H
    exact hR h3 s' (H.del 2)
/-! ## Playing -/
/-- A player: its struct, its entries. -/
def plrL (p : Nat) (ty : TypeId) (s : Sl) (st : Stt) : List Res := [.blk p ty [.int .i64 st.term, .int .i64 st.vote, .slice s.a s.n s.c], .own s 2 (eEN.fl st.es)]
/-- A source that is read in each heap that has these things. -/
def SrcF (h0 : Heap) (F : List Res) (q : Sl) (l0 : List UInt8) : Prop := ∀ h' L, At h0 h' (L ++ F) → RdS h' 1 q (cB l0)
theorem SrcF.src {p : Nat} {G : List Res} (hq : SrcF h0 F q l0) : Src h0 p (G ++ F) q l0 := fun h' ty cs H => hq h' (.blk p ty cs :: G) H
theorem hard_vote_ok {R : Heap → Prop} (H : At h0 h (rdr pr tyr rs_ false :: (plrL p ty s st ++ F))) (hs : RdF q l0 rs_ xs) (hq : SrcF h0 F q l0)
    (hR : ∀ h' s', At h0 h' (rdr pr tyr s' (vV xs).1 :: (plrL p ty s ⟨(vT xs).2.2, (vV xs).2.2, st.es⟩ ++ F)) → RdF q l0 s' (vV xs).2.1 → R h') : C_hard_player_vote (some ⟨p, 0, none⟩) (some ⟨pr, 0, none⟩) h R := by
  refine A_hard_player_vote ?_
  unfold S_hard_player_vote
  refine word_Int_ok H hs hq.src fun h1 s1 H r1 => nn (stAt0 H 1 rfl rfl fun h2 H => ?_)
  have H : At h0 h2 (rdr pr tyr s1 (vT xs).1 :: (plrL p ty s ⟨(vT xs).2.2, st.vote, st.es⟩ ++ F)) := H
  refine word_Int_ok H r1 hq.src fun h3 s3 H r3 => nn (stAt H 1 rfl rfl fun h4 H => ?_)
  exact hR h4 s3 H r3
theorem hard_entry_ok {R : Heap → Prop} (H : At h0 h (rdr pr tyr rs_ false :: (plrL p ty s st ++ F))) (hs : RdF q l0 rs_ xs) (hq : SrcF h0 F q l0) (hl : st.es.length ≤ 1000000000)
    (h1 : (eD st.es.length xs).1 = true → ∀ h' s', At h0 h' (rdr pr tyr s' true :: (plrL p ty s st ++ F)) → RdF q l0 s' (eD st.es.length xs).2.1 → R h')
    (h2 : (eD st.es.length xs).1 = false → ∀ h' s' s2, At h0 h' (rdr pr tyr s' false :: (plrL p ty s2 ⟨st.term, st.vote, st.es.take ((eI st.es.length xs).2.2 - 1).toNat ++ [⟨(eT st.es.length xs).2.2, (eD st.es.length xs).2.2⟩]⟩ ++ F)) → RdF q l0 s' (eD st.es.length xs).2.1 → R h') :
    C_hard_player_entry (some ⟨p, 0, none⟩) (some ⟨pr, 0, none⟩) h R := by
  refine A_hard_player_entry ?_
  unfold S_hard_player_entry
  have hn := H.n (E := eEN) 2 rfl
  refine nn (ldAt H 1 rfl s rfl (let_ ?_))
  rw [w64 (n := (s.n : Int) + 1) (by omega) (by omega), show (s.n : Int) + 1 = ((st.es.length + 1 : Nat) : Int) by omega]
  refine word_Int_ok H hs hq.src fun h3 s3 H r3 => ?_
  refine word_Int_ok H r3 hq.src fun h4 s4 H r4 => ?_
  refine word_Text_ok H r4 hq.src fun h5 s5 H r5 => ?_
  have H : At h0 h5 (rdr pr tyr s5 (eD st.es.length xs).1 :: (plrL p ty s st ++ F)) := H
  have r5 : RdF q l0 s5 (eD st.es.length xs).2.1 := r5
  show Alloc h5 (.cells #[.int .i64 0, .string (⟨#[]⟩ : ByteArray)] _) _
  have g1 : (mInt (mInt false xs 1 ((st.es.length + 1 : Nat) : Int)).1 (mInt false xs 1 ((st.es.length + 1 : Nat) : Int)).2.1 1 1099511627776).2.2 = (eT st.es.length xs).2.2 := rfl
  have g2 : (mInt false xs 1 ((st.es.length + 1 : Nat) : Int)).2.2 = (eI st.es.length xs).2.2 := rfl
  have g3 : (mText (mInt (mInt false xs 1 ((st.es.length + 1 : Nat) : Int)).1 (mInt false xs 1 ((st.es.length + 1 : Nat) : Int)).2.1 1 1099511627776).1 (mInt (mInt false xs 1 ((st.es.length + 1 : Nat) : Int)).1 (mInt false xs 1 ((st.es.length + 1 : Nat) : Int)).2.1 1 1099511627776).2.1 512).2.2 = (eD st.es.length xs).2.2 := rfl
  rw [g1, g2, g3]
  refine allocAt H fun h6 pe H => stAt0 H 0 rfl rfl fun h7 H => stAt H 0 rfl rfl fun h8 H => ?_
  have H := H.mv 1 1
  refine word_Fail_ok H ?_
  cases hbad : (eD st.es.length xs).1 with
  | true =>
    rw [hbad] at H
    exact brF (h1 hbad h8 s5 (H.del 1) r5)
  | false =>
    rw [hbad] at H
    obtain ⟨i1, i2⟩ := eD_ok hbad
    have H := H.mv 1 1
    generalize hi : (eI st.es.length xs).2.2 = i at *
    rw [w64 (n := i - 1) (by omega) (by omega)]
    obtain ⟨m, hm⟩ : ∃ m : Nat, i - 1 = m := ⟨(i - 1).toNat, by omega⟩
    have hmt : (i - 1).toNat = m := by omega
    have hcap := (H.own 3 rfl).2.1
    refine brT (nn (ldAt H 2 rfl s rfl (cutRO (E := eEN) TEN (H.own 3 rfl) 0 m m lo0 (hii hm) (.inr ⟨hii hm, by simp⟩) (by omega) (by omega) (by omega) (by omega) fun s9 o9 n9 c9 b9 => ?_)))
    rw [List.drop_zero, Nat.sub_zero] at o9
    have H := H.as_ 3 rfl (.own s9 2 (eEN.fl (st.es.take m))) o9 fun g hg => by
      show s.blk = some g
      rw [← b9]; exact hg
    refine ldAt0 H 0 rfl _ rfl (ldAt H 0 rfl _ rfl (allocAt H fun h9 pb H => ⟨ldAt H 3 rfl s rfl rfl, ?_⟩))
    refine app1B (E := eEN) TEN H 4 rfl 0 rfl ⟨(eT st.es.length xs).2.2, (eD st.es.length xs).2.2⟩ rfl (by rw [List.length_take]; omega) (by rw [List.length_take]; omega) fun s10 h10 H => nn (stAt H 3 rfl rfl fun h11 H => ?_)
    refine h2 hbad h11 s5 s10 ?_ r5
    rw [hmt]
    exact (H.del 0).del 0
/-- What is read out of a row of records. -/
def SrcW (h0 : Heap) (F : List Res) (l : Sl) (bs : List BR) : Prop := ∀ h' L, At h0 h' (L ++ F) → RdS h' 2 l (eBR.fl bs) ∧ ∀ a ∈ bs, RdS h' 1 a.s (cB a.xs)
theorem playM_none {rs : List WRec} {k : Nat} (hk : k < rs.length) (h1 : playF st0 (rs.take k) = some st) (h2 : stepM st rs[k] = none) : playM rs = none := by
  have e : rs = rs.take k ++ rs[k] :: rs.drop (k + 1) := by rw [← List.drop_eq_getElem_cons hk, List.take_append_drop]
  unfold playM
  rw [e, playF_snoc, h1]
  simp only [playF]
  rw [h2]
theorem playF_step {rs : List WRec} {k : Nat} {st' : Stt} (hk : k < rs.length) (h1 : playF st0 (rs.take k) = some st) (h2 : stepM st rs[k] = some st') : playF st0 (rs.take (k + 1)) = some st' := by
  rw [take_snoc _ k hk, playF_snoc, h1]
  simp only [playF, h2]
theorem hard_Play_ok {R : KL [.int .i64, .int .i64, .sl] → Int → Heap → Prop} (H : At h0 hB F) (hq : SrcW h0 F l bs) (hcp : ∀ a ∈ bs, a.s.n ≤ a.s.c) (hl : bs.length ≤ 1000000000)
    (h1 : playM (bs.map BR.rec_) = none → ∀ h', At h0 h' F → R (0, 0, ⟨none, 0, 0⟩, ()) 2 h')
    (h2 : ∀ st s h', playM (bs.map BR.rec_) = some st → At h0 h' (.own s 2 (eEN.fl st.es) :: F) → R (st.term, st.vote, s, ()) 0 h') : C_hard_Play l hB R := by
  refine A_hard_Play ?_
  unfold S_hard_Play
  have hn := rdn (hq hB [] H).1
  refine allocAt H fun hc1 p1 H => allocAt (H.nil 2) fun hc2 p2 H => ?_
  have bad : ∀ (h' : Heap) (L : List Res), At h0 h' (L ++ (.blk p1 119 [.int .i64 0, .int .i64 0, .slice none 0 0] :: F)) → playM (bs.map BR.rec_) = none →
      St h' ⟨p1, 0, none⟩ (.int .i64 0) fun h_9 => St h_9 ((⟨p1, 0, none⟩ : Addr).add 1) (.int .i64 0) fun h_10 => St h_10 ((⟨p1, 0, none⟩ : Addr).add 2) (.slice none 0 0) fun h_11 =>
      Ld (.int .i64) h_11 ⟨p1, 0, none⟩ fun (r_0 : Int) => Ld (.int .i64) h_11 ((⟨p1, 0, none⟩ : Addr).add 1) fun (r_1 : Int) => Ld .sl h_11 ((⟨p1, 0, none⟩ : Addr).add 2) fun (r_2 : Sl) => R (r_0, r_1, r_2, ()) 2 h_11 := fun h' L H hp => by
    have H : At h0 h' (.blk p1 119 [.int .i64 0, .int .i64 0, .slice none 0 0] :: F) := H.subl (List.sublist_append_right ..)
    repeat (first | with_reducible refine nn ?_ | with_reducible refine let_ ?_ | with_reducible refine brSome ?_ | with_reducible refine brF ?_ | with_reducible refine brT ?_ | ((with_reducible apply ldAt H 0); exact rfl; exact rfl) | ((with_reducible apply ldAt0 H 0); exact rfl; exact rfl) | ((with_reducible apply stAt H 0); exact rfl; exact rfl; intro h H) | ((with_reducible apply stAt0 H 0); exact rfl; exact rfl; intro h H) | ((with_reducible apply allocAt H); intro h b H) | ((with_reducible refine ⟨?_, ?_⟩); first | ((with_reducible apply ldAt H 0); exact rfl; exact rfl; exact rfl) | ((with_reducible apply ldAt0 H 0); exact rfl; exact rfl; exact rfl)))
    exact ldAt H 0 rfl (⟨none, 0, 0⟩ : Sl) rfl (h1 hp _ H.tail)
  refine loop1 (s1 := .one (.int .i64)) (fun (x : Int) h3 => ∃ (k : Nat) (st : Stt) (s : Sl) (ty : TypeId), x = k ∧ k ≤ bs.length ∧ playF st0 ((bs.map BR.rec_).take k) = some st ∧ st.es.length ≤ k ∧ At h0 h3 (plrL p2 ty s st ++ (.blk p1 119 [.int .i64 0, .int .i64 0, .slice none 0 0] :: F))) (fun (x : Int) _ => (bs.length - x).toNat)
    ⟨0, st0, ⟨none, 0, 0⟩, _, rfl, Nat.zero_le _, rfl, Nat.le_refl _, H⟩ fun _ (x : Int) h3 hI => ?_
  obtain ⟨k, st, s, ty, rfl, hk, hp, hlen, H⟩ := hI
  have Hs := (show At h0 h3 ((plrL p2 ty s st ++ [.blk p1 119 [.int .i64 0, .int .i64 0, .slice none 0 0]]) ++ F) from H)
  refine brD (fun hc => ?_) fun hc => ?_
  · have hk2 : k < bs.length := by omega
    have hk3 : k < (bs.map BR.rec_).length := by rw [List.length_map]; exact hk2
    have hge : (bs.map BR.rec_)[k] = ⟨bs[k].kind, bs[k].xs⟩ := by rw [List.getElem_map]; rfl
    have hxl := hq h3 _ Hs
    have hsrc : ∀ G, SrcF h0 (G ++ F) bs[k].s bs[k].xs := fun G h' L H => (hq h' (L ++ G) (by rw [List.append_assoc]; exact H)).2 _ (List.getElem_mem hk2)
    refine ixR hxl.1 k rfl hk2 fun e he => ldR0 hxl.1 he hk2 ((bs[k].kind.toNat : Nat) : Int) rfl (ldR hxl.1 he hk2 bs[k].s rfl ?_)
    refine allocAt H fun h4 px H => stAt0 H 0 rfl rfl fun h5 H => stAt H 0 rfl rfl fun h6 H => ldAt H 0 rfl bs[k].s rfl ?_
    refine word_Read_ok H fun pr tyr h7 H => ?_
    refine ldAt0 H 1 rfl ((bs[k].kind.toNat : Nat) : Int) rfl ?_
    have H := (H.del 1)
    have H : At h0 h7 (rdr pr tyr bs[k].s false :: (plrL p2 ty s st ++ ([.blk p1 119 [.int .i64 0, .int .i64 0, .slice none 0 0]] ++ F))) := H
    have rf : RdF bs[k].s bs[k].xs bs[k].s bs[k].xs := RdF.self (hxl.2 _ (List.getElem_mem hk2)) (hcp _ (List.getElem_mem hk2))
    refine join0 (fun h8 => ∃ s' bad' xs' st' s2, At h0 h8 (rdr pr tyr s' bad' :: (plrL p2 ty s2 st' ++ ([.blk p1 119 [.int .i64 0, .int .i64 0, .slice none 0 0]] ++ F))) ∧ RdF bs[k].s bs[k].xs s' xs' ∧ st'.es.length ≤ k + 1 ∧ stepM st (bs.map BR.rec_)[k] = if bad' = false ∧ xs' = [] then some st' else none) (fun _ h8 hJ => ?_) ?_
    · obtain ⟨s', bad', xs', st', s2, H, r8, hl8, hst⟩ := hJ
      refine word_Done_ok H r8 (brB (fun hb => ?_) fun hb => ?_)
      · refine bad h8 (rdr pr tyr s' bad' :: plrL p2 ty s2 st') H (playM_none hk3 hp ?_)
        rw [hst, if_neg]
        rintro ⟨rfl, rfl⟩
        cases hb
      · have hb2 : bad' = false ∧ xs' = [] := by
          cases bad' with
          | true => cases hb
          | false => exact ⟨rfl, by simpa using hb⟩
        rw [if_pos hb2] at hst
        rw [w64 (by omega) (by omega)]
        exact ⟨⟨k + 1, st', s2, ty, by omega, by omega, playF_step hk3 hp hst, hl8, H.tail⟩, by omega⟩
    · rw [hge]
      refine br beq_iff_eq (fun hk1 => ?_) fun hk1 => br beq_iff_eq (fun hk2' => ?_) fun hk2' => ?_
      · have e1 : bs[k].kind = 1 := UInt8.toNat_inj.1 (by show bs[k].kind.toNat = 1; omega)
        refine hard_vote_ok H rf (hsrc _) fun h8 s8 H r8 => ⟨s8, _, _, _, s, H, r8, by show st.es.length ≤ k + 1; omega, ?_⟩
        unfold stepM
        rw [if_pos e1]
      · have e1 : bs[k].kind = 2 := UInt8.toNat_inj.1 (by show bs[k].kind.toNat = 2; omega)
        have n1 : ¬ bs[k].kind = 1 := by rw [e1]; decide
        refine hard_entry_ok H rf (hsrc _) (by omega) (fun hb h8 s8 H r8 => ⟨s8, true, _, st, s, H, r8, by omega, ?_⟩) fun hb h8 s8 s9 H r8 => ⟨s8, false, _, _, s9, H, r8, ?_, ?_⟩
        · unfold stepM
          rw [if_neg n1, if_pos e1]
          show (if (eD st.es.length bs[k].xs).1 = false ∧ _ then _ else _) = _
          rw [hb]
          simp
        · rw [List.length_append, List.length_take]; simp; omega
        · unfold stepM
          rw [if_neg n1, if_pos e1]
          show (if (eD st.es.length bs[k].xs).1 = false ∧ _ then _ else _) = _
          rw [hb]
      · have n1 : ¬ bs[k].kind = 1 := fun e => hk1 (by rw [e]; rfl)
        have n2 : ¬ bs[k].kind = 2 := fun e => hk2' (by rw [e]; rfl)
        refine bad h7 (rdr pr tyr bs[k].s false :: plrL p2 ty s st) H (playM_none hk3 hp ?_)
        rw [hge]
        unfold stepM
        rw [if_neg n1, if_neg n2]
  · have hkl : k = bs.length := by omega
    subst hkl
    rw [List.take_of_length_le (by rw [List.length_map]; exact Nat.le_refl _)] at hp
    refine nn (ldAt0 H 0 rfl st.term rfl (ldAt H 0 rfl st.vote rfl (ldAt H 0 rfl s rfl ?_)))
    refine hard_Right_ok (H.rdo 1 rfl) (by omega) fun h4 e4 => ?_
    have H := H.ext' e4
    have hpm : playM (bs.map BR.rec_) = if rightM ⟨st.term, st.vote, st.es⟩ = true then some st else none := by unfold playM; rw [hp]
    refine brB (fun hb => ?_) fun hb => ?_
    · refine bad h4 (plrL p2 ty s st) H ?_
      rw [hpm, if_neg]
      intro h
      rw [h] at hb
      cases hb
    · refine nn (ldAt0 H 0 rfl st.term rfl (ldAt H 0 rfl st.vote rfl (ldAt H 0 rfl s rfl ?_)))
      repeat (first | with_reducible refine nn ?_ | with_reducible refine let_ ?_ | with_reducible refine brSome ?_ | with_reducible refine brF ?_ | with_reducible refine brT ?_ | ((with_reducible apply ldAt H 0); exact rfl; exact rfl) | ((with_reducible apply ldAt0 H 0); exact rfl; exact rfl) | ((with_reducible apply ldAt H 1); exact rfl; exact rfl) | ((with_reducible apply ldAt0 H 1); exact rfl; exact rfl) | ((with_reducible apply ldAt H 2); exact rfl; exact rfl) | ((with_reducible apply ldAt0 H 2); exact rfl; exact rfl) | ((with_reducible apply stAt H 0); exact rfl; exact rfl; intro h H) | ((with_reducible apply stAt0 H 0); exact rfl; exact rfl; intro h H) | ((with_reducible apply stAt H 1); exact rfl; exact rfl; intro h H) | ((with_reducible apply stAt0 H 1); exact rfl; exact rfl; intro h H) | ((with_reducible apply stAt H 2); exact rfl; exact rfl; intro h H) | ((with_reducible apply stAt0 H 2); exact rfl; exact rfl; intro h H) | ((with_reducible apply allocAt H); intro h b H) | ((with_reducible refine ⟨?_, ?_⟩); first | ((with_reducible apply ldAt H 0); exact rfl; exact rfl; exact rfl) | ((with_reducible apply ldAt0 H 0); exact rfl; exact rfl; exact rfl) | ((with_reducible apply ldAt H 1); exact rfl; exact rfl; exact rfl) | ((with_reducible apply ldAt0 H 1); exact rfl; exact rfl; exact rfl) | ((with_reducible apply ldAt H 2); exact rfl; exact rfl; exact rfl) | ((with_reducible apply ldAt0 H 2); exact rfl; exact rfl; exact rfl)))
      refine h2 st s _ ?_ ((H.del 0).del 1)
      rw [hpm, if_pos]
      simpa using hb
/-! ## The document's playing -/
def SrcS (h0 : Heap) (F : List Res) (l : Sl) (rs : List WRec) : Prop := ∀ h' L, At h0 h' (L ++ F) → RdS h' 2 l (eRS.fl rs)
theorem ref06_Play_ok {R : KL [.int .i64, .int .i64, .sl] → Bool → Heap → Prop} (H : At h0 hB F) (hq : SrcS h0 F l rs) (hl : rs.length ≤ 1000000000)
    (h1 : playM rs = none → ∀ h', At h0 h' F → R (0, 0, ⟨none, 0, 0⟩, ()) false h')
    (h2 : ∀ st s h', playM rs = some st → At h0 h' (.own s 2 (eEN.fl st.es) :: F) → R (st.term, st.vote, s, ()) true h') : C_ref06_Play l hB R := by
  refine A_ref06_Play ?_
  unfold S_ref06_Play
  have hn := rdn (hq hB [] H)
  refine allocAt H fun hc1 p1 H => allocAt (H.nil 2) fun hc2 p2 H => stAt0 H 0 rfl rfl fun hc3 H => stAt H 0 rfl rfl fun hc4 H => stAt H 0 rfl rfl fun hc5 H => ?_
  have bad : ∀ (h' : Heap) (L : List Res), At h0 h' (L ++ (.blk p1 119 [.int .i64 0, .int .i64 0, .slice none 0 0] :: F)) → playM rs = none →
      St h' ⟨p1, 0, none⟩ (.int .i64 0) fun h_9 => St h_9 ((⟨p1, 0, none⟩ : Addr).add 1) (.int .i64 0) fun h_10 => St h_10 ((⟨p1, 0, none⟩ : Addr).add 2) (.slice none 0 0) fun h_11 =>
      Ld (.int .i64) h_11 ⟨p1, 0, none⟩ fun (r_0 : Int) => Ld (.int .i64) h_11 ((⟨p1, 0, none⟩ : Addr).add 1) fun (r_1 : Int) => Ld .sl h_11 ((⟨p1, 0, none⟩ : Addr).add 2) fun (r_2 : Sl) => R (r_0, r_1, r_2, ()) false h_11 := fun h' L H hp => by
    have H : At h0 h' (.blk p1 119 [.int .i64 0, .int .i64 0, .slice none 0 0] :: F) := H.subl (List.sublist_append_right ..)
    repeat (first | with_reducible refine nn ?_ | with_reducible refine let_ ?_ | with_reducible refine brSome ?_ | with_reducible refine brF ?_ | with_reducible refine brT ?_ | ((with_reducible apply ldAt H 0); exact rfl; exact rfl) | ((with_reducible apply ldAt0 H 0); exact rfl; exact rfl) | ((with_reducible apply stAt H 0); exact rfl; exact rfl; intro h H) | ((with_reducible apply stAt0 H 0); exact rfl; exact rfl; intro h H) | ((with_reducible apply allocAt H); intro h b H) | ((with_reducible refine ⟨?_, ?_⟩); first | ((with_reducible apply ldAt H 0); exact rfl; exact rfl; exact rfl) | ((with_reducible apply ldAt0 H 0); exact rfl; exact rfl; exact rfl)))
    exact ldAt H 0 rfl (⟨none, 0, 0⟩ : Sl) rfl (h1 hp _ H.tail)
  refine loop1 (s1 := .one (.int .i64)) (fun (x : Int) h3 => ∃ (k : Nat) (st : Stt) (s : Sl) (ty : TypeId), x = k ∧ k ≤ rs.length ∧ playF st0 (rs.take k) = some st ∧ st.es.length ≤ k ∧ At h0 h3 (plrL p2 ty s st ++ (.blk p1 119 [.int .i64 0, .int .i64 0, .slice none 0 0] :: F))) (fun (x : Int) _ => (rs.length - x).toNat)
    ⟨0, st0, ⟨none, 0, 0⟩, _, rfl, Nat.zero_le _, rfl, Nat.le_refl _, H⟩ fun _ (x : Int) h3 hI => ?_
  obtain ⟨k, st, s, ty, rfl, hk, hp, hlen, H⟩ := hI
  have Hs := (show At h0 h3 ((plrL p2 ty s st ++ [.blk p1 119 [.int .i64 0, .int .i64 0, .slice none 0 0]]) ++ F) from H)
  refine brD (fun hc => ?_) fun hc => ?_
  · have hk2 : k < rs.length := by omega
    have hxl := hq h3 _ Hs
    refine ixR hxl k rfl hk2 fun e he => ldR0 hxl he hk2 ((rs[k].kind.toNat : Nat) : Int) rfl (ldR hxl he hk2 (strB rs[k].data) rfl ?_)
    refine allocAt H fun h4 px H => stAt0 H 0 rfl rfl fun h5 H => stAt H 0 rfl rfl fun h6 H => ldAt H 0 rfl (strB rs[k].data) rfl ?_
    refine allocAt H fun h7 pr H => ?_
    refine ldAt0 H 1 rfl ((rs[k].kind.toNat : Nat) : Int) rfl ?_
    have H : At h0 h7 (qrd pr _ rs[k].data false :: (.blk px _ [.int .u8 (rs[k].kind.toNat : Nat), .string (strB rs[k].data)] :: (plrL p2 ty s st ++ (.blk p1 119 [.int .i64 0, .int .i64 0, .slice none 0 0] :: F)))) := H
    refine join0 (fun h8 => ∃ bad' xs' st' s2 tyq tyx cx, At h0 h8 (qrd pr tyq xs' bad' :: (.blk px tyx cx :: (plrL p2 ty s2 st' ++ (.blk p1 119 [.int .i64 0, .int .i64 0, .slice none 0 0] :: F)))) ∧ st'.es.length ≤ k + 1 ∧ stepM st rs[k] = if bad' = false ∧ xs' = [] then some st' else none) (fun _ h8 hJ => ?_) ?_
    · obtain ⟨bad', xs', st', s2, tyq, tyx, cx, H, hl8, hst⟩ := hJ
      have hb1 : ¬ (bad' = false ∧ xs' = []) → playM rs = none := fun hno => playM_none hk2 hp (by rw [hst, if_neg hno])
      refine nn (ldAt H 0 rfl bad' rfl (brB (fun hb => ?_) fun hb => nn (ldAt0 H 0 rfl (strB xs') rfl ?_)))
      · exact bad h8 (qrd pr tyq xs' bad' :: .blk px tyx cx :: plrL p2 ty s2 st') H (hb1 fun h => by rw [hb] at h; cases h.1)
      · rw [strB_toList, show (⟨#[]⟩ : ByteArray).toList = [] from strB_toList []]
        refine brB (fun hx => ?_) fun hx => ?_
        · exact bad h8 (qrd pr tyq xs' bad' :: .blk px tyx cx :: plrL p2 ty s2 st') H (hb1 fun h => by rw [h.2] at hx; cases hx)
        · have hb2 : bad' = false ∧ xs' = [] := ⟨hb, by simpa using hx⟩
          rw [if_pos hb2] at hst
          rw [w64 (by omega) (by omega)]
          exact ⟨⟨k + 1, st', s2, ty, by omega, by omega, playF_step hk2 hp hst, hl8, H.tail.tail⟩, by omega⟩
    · refine br beq_iff_eq (fun hk1 => ?_) fun hk1 => ldAt0 H 1 rfl ((rs[k].kind.toNat : Nat) : Int) rfl (br beq_iff_eq (fun hk2' => ?_) fun hk2' => ?_)
      · have e1 : rs[k].kind = 1 := UInt8.toNat_inj.1 (by show rs[k].kind.toNat = 1; omega)
        refine ref01_RInt_ok H fun h8 H => stAt0 H 2 rfl rfl fun h9 H => ref01_RInt_ok H fun h10 H => stAt H 2 rfl rfl fun h11 H => ?_
        refine ⟨(vV rs[k].data).1, (vV rs[k].data).2.1, ⟨(vT rs[k].data).2.2, (vV rs[k].data).2.2, st.es⟩, s, _, _, _, H, by show st.es.length ≤ k + 1; omega, ?_⟩
        unfold stepM
        rw [if_pos e1]
      · have e1 : rs[k].kind = 2 := UInt8.toNat_inj.1 (by show rs[k].kind.toNat = 2; omega)
        have n1 : ¬ rs[k].kind = 1 := by rw [e1]; decide
        have hsn := H.n (E := eEN) 3 rfl
        refine ldAt H 2 rfl s rfl ?_
        rw [w64 (n := (s.n : Int) + 1) (by omega) (by omega), show (s.n : Int) + 1 = ((st.es.length + 1 : Nat) : Int) by omega]
        refine ref01_RInt_ok H fun h8 H => ref01_RInt_ok H fun h9 H => ref01_RText_ok H fun h10 H => ?_
        have g1 : (mInt (mInt false rs[k].data 1 ((st.es.length + 1 : Nat) : Int)).1 (mInt false rs[k].data 1 ((st.es.length + 1 : Nat) : Int)).2.1 1 1099511627776).2.2 = (eT st.es.length rs[k].data).2.2 := rfl
        have g2 : (mInt false rs[k].data 1 ((st.es.length + 1 : Nat) : Int)).2.2 = (eI st.es.length rs[k].data).2.2 := rfl
        have g3 : (mText (mInt (mInt false rs[k].data 1 ((st.es.length + 1 : Nat) : Int)).1 (mInt false rs[k].data 1 ((st.es.length + 1 : Nat) : Int)).2.1 1 1099511627776).1 (mInt (mInt false rs[k].data 1 ((st.es.length + 1 : Nat) : Int)).1 (mInt false rs[k].data 1 ((st.es.length + 1 : Nat) : Int)).2.1 1 1099511627776).2.1 512).2.2 = (eD st.es.length rs[k].data).2.2 := rfl
        rw [g1, g2, g3]
        have hst : stepM st rs[k] = if (eD st.es.length rs[k].data).1 = false ∧ (eD st.es.length rs[k].data).2.1 = [] then some ⟨st.term, st.vote, st.es.take ((eI st.es.length rs[k].data).2.2 - 1).toNat ++ [⟨(eT st.es.length rs[k].data).2.2, (eD st.es.length rs[k].data).2.2⟩]⟩ else none := by
          unfold stepM
          rw [if_neg n1, if_pos e1]
        have H : At h0 h10 (qrd pr _ (eD st.es.length rs[k].data).2.1 (eD st.es.length rs[k].data).1 :: (.blk px _ [.int .u8 (rs[k].kind.toNat : Nat), .string (strB rs[k].data)] :: (plrL p2 ty s st ++ (.blk p1 119 [.int .i64 0, .int .i64 0, .slice none 0 0] :: F)))) := H
        generalize hxr : (eD st.es.length rs[k].data).2.1 = xr at *
        refine allocAt H fun h11 pe H => stAt0 H 0 rfl rfl fun h12 H => stAt H 0 rfl rfl fun h13 H => nn (ldAt H 1 rfl (eD st.es.length rs[k].data).1 rfl ?_)
        cases hbad : (eD st.es.length rs[k].data).1 with
        | true =>
          rw [hbad] at H hst
          exact brF ⟨true, _, st, s, _, _, _, H.tail, by omega, by rw [hst, if_neg (fun h => by cases h.1), if_neg (fun h => by cases h.1)]⟩
        | false =>
          rw [hbad] at H hst
          obtain ⟨i1, i2⟩ := eD_ok hbad
          generalize hi : (eI st.es.length rs[k].data).2.2 = i at *
          rw [w64 (n := i - 1) (by omega) (by omega)]
          obtain ⟨m, hm⟩ : ∃ m : Nat, i - 1 = m := ⟨(i - 1).toNat, by omega⟩
          have hmt : (i - 1).toNat = m := by omega
          rw [hmt] at hst
          have hcap := (H.own 4 rfl).2.1
          generalize hu : (eT st.es.length rs[k].data).2.2 = u at *
          generalize hw : (eD st.es.length rs[k].data).2.2 = w at *
          refine brT (ldAt H 3 rfl s rfl (cutRO (E := eEN) TEN (H.own 4 rfl) 0 m s.c lo0 (hii hm) (.inl ⟨rfl, rfl⟩) (by omega) (by omega) (by omega) (Nat.le_refl _) fun s9 o9 n9 c9 b9 => ?_))
          rw [List.drop_zero, Nat.sub_zero] at o9
          have H := H.as_ 4 rfl (.own s9 2 (eEN.fl (st.es.take m))) o9 fun g hg => by
            show s.blk = some g
            rw [← b9]; exact hg
          refine ldAt0 H 0 rfl u rfl (ldAt H 0 rfl (strB w) rfl ?_)
          have hml : (st.es.take m).length = m := by rw [List.length_take]; omega
          -- where all ways meet
          have fin : ∀ (h' : Heap) (s' : Sl) (x0 x2 : Res) (tyq tyx : TypeId) (cx : List Value), At h0 h' (x0 :: .own s' 2 (eEN.fl (st.es.take m ++ [⟨u, w⟩])) :: x2 :: qrd pr tyq xr false :: .blk px tyx cx :: .blk p2 ty [.int .i64 st.term, .int .i64 st.vote, .slice s'.a s'.n s'.c] :: .own s9 2 (eEN.fl (st.es.take m)) :: .blk p1 119 [.int .i64 0, .int .i64 0, .slice none 0 0] :: F) →
              ∃ bad' xs' st' s2 tyq tyx cx, At h0 h' (qrd pr tyq xs' bad' :: (.blk px tyx cx :: (plrL p2 ty s2 st' ++ (.blk p1 119 [.int .i64 0, .int .i64 0, .slice none 0 0] :: F)))) ∧ st'.es.length ≤ k + 1 ∧ stepM st rs[k] = if bad' = false ∧ xs' = [] then some st' else none := fun h' s' x0 x2 tyq tyx cx H => by
            refine ⟨false, xr, (⟨st.term, st.vote, st.es.take m ++ [(⟨u, w⟩ : Ent)]⟩ : Stt), s', tyq, tyx, cx, ?_, ?_, hst⟩
            · exact (((H.del 0).del 1).del 4).mv 1 3
            rw [List.length_append, hml]; simp; omega
          have cst : ∀ h' b', Blk h' b' 90 [] → Own h' 2 ⟨some ⟨b', 0, none⟩, 0, 0⟩ (eEN.fl []) := fun h' b' hb => Own.full hb (sz := 2) (n := 0) (by rfl) (by decide)
          refine ⟨allocAt H fun h14 b14 H => ?_, allocAt H fun h14 b14 H => ⟨ldAt H 4 rfl s rfl rfl, allocAt H fun h15 b15 H => ?_⟩⟩
          · have hb14 : Blk h14 b14 _ [] := H.get 0 rfl
            have H := H.as_ 0 rfl (.own ⟨some ⟨b14, 0, none⟩, 0, 0⟩ 2 (eEN.fl [])) (cst _ _ hb14) fun g hg => by simp [Res.fp, Sl.blk] at hg ⊢; omega
            refine ⟨ldAt H 4 rfl s rfl rfl, ldAt0 H 1 rfl u rfl (ldAt H 1 rfl (strB w) rfl rfl), ?_, allocAt H fun h15 b15 H => ⟨ldAt H 5 rfl s rfl rfl, ?_⟩⟩
            · refine appAt (E := eEN) (xs := []) TEN H 0 rfl (H.rdo 5 rfl) (by simp; omega) (by simp; omega) fun s15 h15 H => ⟨ldAt0 H 1 rfl u rfl (ldAt H 1 rfl (strB w) rfl rfl), allocAt H fun h16 b16 H => ⟨ldAt H 5 rfl s rfl rfl, ?_⟩⟩
              rw [List.nil_append] at H
              refine app1B (E := eEN) TEN H 1 rfl 0 rfl ⟨u, w⟩ rfl (by omega) (by omega) fun s17 h17 H => stAt H 5 rfl rfl fun h18 H => fin _ _ _ _ _ _ _ H
            · refine appAt (E := eEN) (xs := []) TEN H 1 rfl (H.rdo 6 rfl) (by simp; omega) (by simp; omega) fun s15 h15 H => ⟨ldAt0 H 2 rfl u rfl (ldAt H 2 rfl (strB w) rfl rfl), ?_⟩
              rw [List.nil_append] at H
              refine app1B (E := eEN) TEN H 1 rfl 0 rfl ⟨u, w⟩ rfl (by omega) (by omega) fun s17 h17 H => stAt H 5 rfl rfl fun h18 H => fin _ _ _ _ _ _ _ H
          · have hb15 : Blk h15 b15 _ [] := H.get 0 rfl
            have H := H.as_ 0 rfl (.own ⟨some ⟨b15, 0, none⟩, 0, 0⟩ 2 (eEN.fl [])) (cst _ _ hb15) fun g hg => by simp [Res.fp, Sl.blk] at hg ⊢; omega
            refine ⟨ldAt H 5 rfl s rfl rfl, ldAt0 H 2 rfl u rfl (ldAt H 2 rfl (strB w) rfl rfl), ?_⟩
            refine appAt (E := eEN) (xs := []) TEN H 0 rfl (H.rdo 6 rfl) (by simp; omega) (by simp; omega) fun s15 h15 H => ⟨ldAt0 H 2 rfl u rfl (ldAt H 2 rfl (strB w) rfl rfl), ?_⟩
            rw [List.nil_append] at H
            refine app1B (E := eEN) TEN H 0 rfl 1 rfl ⟨u, w⟩ rfl (by omega) (by omega) fun s17 h17 H => stAt H 5 rfl rfl fun h18 H => fin _ _ _ _ _ _ _ (H.mv 1 1)
      · have n1 : ¬ rs[k].kind = 1 := fun e => hk1 (by rw [e]; rfl)
        have n2 : ¬ rs[k].kind = 2 := fun e => hk2' (by rw [e]; rfl)
        refine bad h7 (_ :: _ :: plrL p2 ty s st) H (playM_none hk2 hp ?_)
        unfold stepM
        rw [if_neg n1, if_neg n2]
  · have hkl : k = rs.length := by omega
    subst hkl
    rw [List.take_length] at hp
    refine ldAt0 H 0 rfl st.term rfl (ldAt H 0 rfl st.vote rfl (ldAt H 0 rfl s rfl ?_))
    refine ref06_Right_ok (H.rdo 1 rfl) (by omega) fun h4 e4 => ?_
    have H := H.ext' e4
    have hpm : playM rs = if rightM ⟨st.term, st.vote, st.es⟩ = true then some st else none := by unfold playM; rw [hp]
    refine brB (fun hb => ?_) fun hb => ?_
    · refine bad h4 (plrL p2 ty s st) H ?_
      rw [hpm, if_neg]
      intro h
      rw [h] at hb
      cases hb
    · refine ldAt0 H 0 rfl st.term rfl (ldAt H 0 rfl st.vote rfl (ldAt H 0 rfl s rfl ?_))
      repeat (first | with_reducible refine nn ?_ | with_reducible refine let_ ?_ | with_reducible refine brSome ?_ | with_reducible refine brF ?_ | with_reducible refine brT ?_ | ((with_reducible apply ldAt H 0); exact rfl; exact rfl) | ((with_reducible apply ldAt0 H 0); exact rfl; exact rfl) | ((with_reducible apply ldAt H 1); exact rfl; exact rfl) | ((with_reducible apply ldAt0 H 1); exact rfl; exact rfl) | ((with_reducible apply ldAt H 2); exact rfl; exact rfl) | ((with_reducible apply ldAt0 H 2); exact rfl; exact rfl) | ((with_reducible apply stAt H 0); exact rfl; exact rfl; intro h H) | ((with_reducible apply stAt0 H 0); exact rfl; exact rfl; intro h H) | ((with_reducible apply stAt H 1); exact rfl; exact rfl; intro h H) | ((with_reducible apply stAt0 H 1); exact rfl; exact rfl; intro h H) | ((with_reducible apply stAt H 2); exact rfl; exact rfl; intro h H) | ((with_reducible apply stAt0 H 2); exact rfl; exact rfl; intro h H) | ((with_reducible apply allocAt H); intro h b H) | ((with_reducible refine ⟨?_, ?_⟩); first | ((with_reducible apply ldAt H 0); exact rfl; exact rfl; exact rfl) | ((with_reducible apply ldAt0 H 0); exact rfl; exact rfl; exact rfl) | ((with_reducible apply ldAt H 1); exact rfl; exact rfl; exact rfl) | ((with_reducible apply ldAt0 H 1); exact rfl; exact rfl; exact rfl) | ((with_reducible apply ldAt H 2); exact rfl; exact rfl; exact rfl) | ((with_reducible apply ldAt0 H 2); exact rfl; exact rfl; exact rfl)))
      refine h2 st s _ ?_ ((H.del 0).del 1)
      rw [hpm, if_pos]
      simpa using hb
/-! ## Recovering -/
theorem hard_Recover_nil {R : KL [.int .i64, .int .i64, .sl] → Int → Heap → Prop} (H : At h0 hB F) (hR : ∀ h', At h0 h' F → R (0, 0, ⟨none, 0, 0⟩, ()) 1 h') : C_hard_Recover none hB R := by
  refine A_hard_Recover ?_
  unfold S_hard_Recover
  refine allocAt H fun h1 p1 H => wal_Recover_nil (brY rfl ?_)
  repeat (first | with_reducible refine nn ?_ | with_reducible refine let_ ?_ | with_reducible refine brSome ?_ | with_reducible refine brF ?_ | with_reducible refine brT ?_ | ((with_reducible apply ldAt H 0); exact rfl; exact rfl) | ((with_reducible apply ldAt0 H 0); exact rfl; exact rfl) | ((with_reducible apply stAt H 0); exact rfl; exact rfl; intro h H) | ((with_reducible apply stAt0 H 0); exact rfl; exact rfl; intro h H) | ((with_reducible apply allocAt H); intro h b H) | ((with_reducible refine ⟨?_, ?_⟩); first | ((with_reducible apply ldAt H 0); exact rfl; exact rfl; exact rfl) | ((with_reducible apply ldAt0 H 0); exact rfl; exact rfl; exact rfl)))
  exact ldAt H 0 rfl (⟨none, 0, 0⟩ : Sl) rfl (hR _ H.tail)
theorem hard_Recover_ok {R : KL [.int .i64, .int .i64, .sl] → Int → Heap → Prop} (H : At h0 hB (diskL d ty sd b n ++ F)) (hl : b.length ≤ 1048576) (hge : n ≤ (walR b).2.1)
    (h1 : playM (walR b).1 = none → ∀ h' s', At h0 h' (diskL d ty s' (b.take (walR b).2.1) (walR b).2.1 ++ F) → R (0, 0, ⟨none, 0, 0⟩, ()) 2 h')
    (h2 : ∀ st s h' s', playM (walR b).1 = some st → At h0 h' (.own s 2 (eEN.fl st.es) :: (diskL d ty s' (b.take (walR b).2.1) (walR b).2.1 ++ F)) → R (st.term, st.vote, s, ()) 0 h') : C_hard_Recover (some ⟨d, 0, none⟩) hB R := by
  refine A_hard_Recover ?_
  unfold S_hard_Recover
  refine allocAt H fun hc1 p1 H => ?_
  have hle := walM_le b (b.length + 1) [] 0 (Nat.zero_le _)
  have hcnt : (walR b).1.length ≤ 1048576 := by
    have h1 := hle.2.1
    have h2 := hle.2.2
    unfold walR
    simp only [List.length_nil] at h2
    omega
  refine wal_Recover_ok (F := .blk p1 _ _ :: F) (H.mv 1 2) hl (fun hlt => by omega) fun _ h3 out bs s3 hbs hcp H => brN rfl ?_
  have hbl : bs.length ≤ 1048576 := by
    have := congrArg List.length hbs
    rw [List.length_map] at this
    omega
  rw [← hbs] at h1 h2
  have H := H.mv 3 1
  refine hard_Play_ok (F := _ :: (diskL d ty s3 (b.take (walR b).2.1) (walR b).2.1 ++ (resW out bs :: F))) (bs := bs) H (fun h' L H => ?_) hcp (by omega) (fun hp h4 H => ?_) fun st s h4 hp H => ?_
  · have H := H.subl (List.sublist_append_right ..)
    exact H.get 3 rfl
  · repeat (first | with_reducible refine nn ?_ | with_reducible refine let_ ?_ | with_reducible refine brSome ?_ | with_reducible refine brF ?_ | with_reducible refine brT ?_ | ((with_reducible apply ldAt H 0); exact rfl; exact rfl) | ((with_reducible apply ldAt0 H 0); exact rfl; exact rfl) | ((with_reducible apply stAt H 0); exact rfl; exact rfl; intro h H) | ((with_reducible apply stAt0 H 0); exact rfl; exact rfl; intro h H) | ((with_reducible apply allocAt H); intro h b H) | ((with_reducible refine ⟨?_, ?_⟩); first | ((with_reducible apply ldAt H 0); exact rfl; exact rfl; exact rfl) | ((with_reducible apply ldAt0 H 0); exact rfl; exact rfl; exact rfl)))
    exact h1 hp _ s3 (H.tail.del 2)
  · repeat (first | with_reducible refine nn ?_ | with_reducible refine let_ ?_ | with_reducible refine brSome ?_ | with_reducible refine brF ?_ | with_reducible refine brT ?_ | ((with_reducible apply ldAt H 0); exact rfl; exact rfl) | ((with_reducible apply ldAt0 H 0); exact rfl; exact rfl) | ((with_reducible apply ldAt H 1); exact rfl; exact rfl) | ((with_reducible apply ldAt0 H 1); exact rfl; exact rfl) | ((with_reducible apply stAt H 0); exact rfl; exact rfl; intro h H) | ((with_reducible apply stAt0 H 0); exact rfl; exact rfl; intro h H) | ((with_reducible apply stAt H 1); exact rfl; exact rfl; intro h H) | ((with_reducible apply stAt0 H 1); exact rfl; exact rfl; intro h H) | ((with_reducible apply allocAt H); intro h b H) | ((with_reducible refine ⟨?_, ?_⟩); first | ((with_reducible apply ldAt H 0); exact rfl; exact rfl; exact rfl) | ((with_reducible apply ldAt0 H 0); exact rfl; exact rfl; exact rfl) | ((with_reducible apply ldAt H 1); exact rfl; exact rfl; exact rfl) | ((with_reducible apply ldAt0 H 1); exact rfl; exact rfl; exact rfl)))
    exact h2 st s _ s3 hp ((H.del 1).del 3)
end
end Go.Proofs.Ytnognoiaakiepaa
