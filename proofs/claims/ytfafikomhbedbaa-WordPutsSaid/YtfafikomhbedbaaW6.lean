/-
  Layer 1 (word): what is put is the document's, and reads as it was (WordPuts).
-/
import Derived.Test.YtfafikomhbedbaaW5
namespace Go.Proofs.Ytfafikomhbedbaa
open Go

theorem wrap_u64 {n : Int} (h : -9223372036854775808 ≤ n ∧ n ≤ 9223372036854775807) : IntKind.i64.wrap (u64 n : Int) = n := by
  rw [IntKind.wrap_i64]; unfold u64; omega
theorem mInt_puts (n : Int) (l : List UInt8) (least most : Int) (hn : -9223372036854775808 ≤ n ∧ n ≤ 9223372036854775807) :
    mInt false (be8 n ++ l) least most = if least ≤ n ∧ n ≤ most then (false, l, n) else (true, [], 0) := by
  have h8 := be8_length n
  unfold mInt
  rw [if_neg (by rintro (h0 | h0); exact Bool.noConfusion h0; rw [List.length_append] at h0; omega)]
  rw [List.take_left' h8, List.drop_left' h8, valBE_be8, wrap_u64 hn]
theorem be2_length (k : Nat) : (be2 k).length = 2 := rfl
theorem valBE_be2 (k : Nat) (hk : k < 65536) : valBE (be2 k) = k := by
  have h := valBE_take2 (l := be2 k) (by rw [be2_length]; omega)
  rw [List.take_of_length_le (by rw [be2_length]; omega)] at h
  rw [h]
  simp only [be2, List.getElem_cons_zero, List.getElem_cons_succ]
  rw [UInt8.toNat_ofNat', UInt8.toNat_ofNat']; omega
theorem mText_puts (t l : List UInt8) : mText false (txt t ++ l) 65535 = (false, l, t.take 65535) := by
  have hl : (t.take 65535).length = min t.length 65535 := by rw [List.length_take]; omega
  have e : txt t ++ l = be2 (min t.length 65535) ++ (t.take 65535 ++ l) := by unfold txt; rw [List.append_assoc]
  rw [e]
  unfold mText
  have h2 := be2_length (min t.length 65535)
  rw [if_neg (by rintro (h0 | h0); exact Bool.noConfusion h0; rw [List.length_append] at h0; omega)]
  rw [List.take_left' h2, List.drop_left' h2, valBE_be2 _ (by omega), if_neg (by omega), if_neg (by rw [List.length_append, hl]; omega), List.take_left' hl, List.drop_left' hl]
theorem mBool_puts (b : Bool) : mBool false (tru b) = (false, [], b) := by cases b <;> decide +kernel
theorem mText_bad (l : List UInt8) (m : Int) : mText true l m = (true, [], []) := by unfold mText; rw [if_pos (.inl rfl)]
theorem mBool_bad (l : List UInt8) : mBool true l = (true, [], false) := by unfold mBool; rw [if_pos (.inl rfl)]

theorem law01_WordPuts_ok {n : Int} {s : ByteArray} {yes : Bool} {least most : Int} {h : Heap} (hn : -9223372036854775808 ≤ n ∧ n ≤ 9223372036854775807) (_ : s.size ≤ maxLen) (_ : -9223372036854775808 ≤ least ∧ least ≤ 9223372036854775807) (_ : -9223372036854775808 ≤ most ∧ most ≤ 9223372036854775807) :
    C_law01_WordPuts n s yes least most h fun r h' => r = true ∧ Ext h.size h h' := by
  refine A_law01_WordPuts ?_
  unfold S_law01_WordPuts
  refine law01_fixed_ok fun h0 e0 => brN rfl (brD (fun _ => ⟨rfl, e0⟩) fun hs => ?_)
  have hsz : s.data.toList.length = s.size := rfl
  refine alloc (cs := cB [7]) fun h1 b1 e1 z1 => ?_
  have o1 : Own h1 1 ⟨some ⟨h0.size, 0, none⟩, 1, 1⟩ (cB [7]) := Own.full b1 (sz := 1) (n := 1) (by rfl) (by decide)
  have f1 : (⟨some ⟨h0.size, 0, none⟩, 1, 1⟩ : Sl).from_ h0.size := fun g hg => by
    simp only [Sl.blk, Option.map_some, Option.some.injEq] at hg; omega
  have lt2 : (txt s.data.toList).length ≤ 65537 := by unfold txt; rw [List.length_append, be2_length, List.length_take]; omega
  refine word_IntP o1 (by decide) fun s2 h2 o2 g2 => ?_
  refine word_TextP o2 (by rw [List.length_append, be8_length]; decide) fun s3 h3 o3 g3 => ?_
  refine word_BoolP o3 (by rw [List.length_append, List.length_append, be8_length]; simp; omega) fun s4 h4 o4 g4 => ?_
  generalize hL : txt s.data.toList ++ tru yes = L
  have hall : [7] ++ be8 n ++ txt s.data.toList ++ tru yes = [7] ++ (be8 n ++ L) := by rw [← hL]; simp only [List.append_assoc]
  rw [hall] at o4
  have g := (g2.trans g3).trans g4
  have E4 : Ext h0.size h0 h4 := e1.trans (g.ext f1 (by omega))
  have hle4 := E4.1
  refine toS BT o4.rd ?_
  refine ref01_IntP fun h5 e5 => ⟨toS BT (o4.rd.ext' e5) rfl, ?_⟩
  have hlt : s.size ≤ 70000 := by omega
  rw [show (⟨#[7]⟩ : ByteArray) = strB [7] from rfl]
  refine cat (by rw [strB_size, strB_size, be8_length]; decide) ?_
  refine ref01_TextP (by omega) fun h6 e6 => ⟨toS BT ((o4.rd.ext' e5).ext' e6) rfl, ?_⟩
  rw [strB_append]
  refine cat (by rw [strB_size, strB_size, List.length_append, be8_length]; simp; omega) ?_
  refine ref01_BoolP fun h7 e7 => ⟨toS BT (((o4.rd.ext' e5).ext' e6).ext' e7) rfl, ?_⟩
  rw [strB_append]
  refine cat (by rw [strB_size, strB_size, List.length_append, List.length_append, be8_length]; simp [tru]; omega) ?_
  rw [strB_append]
  refine brN (by rw [strB_toList, strB_toList, hall]; simp) ?_
  have r7 := ((o4.rd.ext' e5).ext' e6).ext' e7
  have E7 : Ext h0.size h0 h7 := ((E4.trans (e5.mono hle4)).trans (e6.mono (by have := e5.1; omega))).trans (e7.mono (by have := e5.1; have := e6.1; omega))
  have hn4 : s4.n = 1 + (be8 n ++ L).length := by
    have := r7.1
    rw [cB_length, List.length_append] at this
    simpa [Nat.add_comm] using this.symm
  have b4 : s4.below h7.size := fun g hg => by
    obtain ⟨_, _, _, hh⟩ := o4
    have := e5.1; have := e6.1; have := e7.1
    rcases hh with ⟨ha, _⟩ | ⟨g', o, ha, hlt, _⟩
    · rw [Sl.blk, ha] at hg; cases hg
    · rw [Sl.blk, ha] at hg; injection hg with hg; rw [← hg]; show g' < _; omega
  refine cut_rd TB r7 1 s4.n s4.c (loi rfl) (hi0 _) (.inl ⟨rfl, rfl⟩) (by omega) (Nat.le_refl _) o4.2.1 (Nat.le_refl _) fun s8 r8 n8 c8 k8 => ?_
  have r8' : RdS h7 1 s8 (cB (be8 n ++ L)) := by
    rw [cB_drop, cB_take] at r8
    have : ((([7] : List UInt8) ++ (be8 n ++ L)).drop (1 * 1)).take ((s4.n - 1) * 1) = be8 n ++ L := by
      rw [Nat.mul_one, Nat.mul_one]; show (be8 n ++ L).take (s4.n - 1) = _; exact List.take_of_length_le (by omega)
    rwa [this] at r8
  have o4c := o4.2.1
  have o4m := o4.2.2.1
  refine word_Read_ok (F := (· < h7.size)) r8' (by omega) (by omega) (fun g hg => b4 g (by rw [← k8]; exact hg)) fun p h8 R8 e8 z8 p8 => ?_
  have hF : ¬ p < h7.size := by omega
  have E8 : Ext h0.size h0 h8 := E7.trans (e8.mono E7.1)
  have h0p : h0.size ≤ p := by have := E7.1; omega
  refine word_Int_ok R8 hF fun h9 st9 => ?_
  rw [mInt_puts n L least most hn] at st9 ⊢
  obtain ⟨R9, u9, z9⟩ := st9
  have E9 : Ext h0.size h0 h9 := E8.trans (u9.ext1 h0p E8.1)
  have E9' : Ext h.size h h9 := e0.trans (E9.mono e0.1)
  have bad : ¬ (least ≤ n ∧ n ≤ most) → Join [.one .bool] (fun _ (x10 : Bool) h_10 => x10 = true ∧ Ext h.size h h_10) fun J =>
      (bif (if least ≤ n ∧ n ≤ most then (false, L, n) else (true, ([] : List UInt8), (0 : Int))).2.2 == 0 then
        C_word_Reader_Fail (some ⟨p, 0, none⟩) h9 fun (r9 : Bool) h_11 =>
        (bif r9 then
          C_word_Reader_Text (some ⟨p, 0, none⟩) 99 h_11 fun (r10 : ByteArray) h_12 =>
          (bif r10.toList == (⟨#[]⟩ : ByteArray).toList then
            C_word_Reader_Bool (some ⟨p, 0, none⟩) h_12 fun (r11 : Bool) h_13 =>
            (bif !r11 then
              C_word_Reader_Left (some ⟨p, 0, none⟩) h_13 fun (r12 : Int) h_14 =>
              J (r12 == 0) h_14
            else
              J false h_13
            )
          else
            J false h_12
          )
        else
          J false h_11
        )
      else
        J false h9
      ) := fun hc => by
    rw [if_neg hc] at R9 ⊢
    refine join1 (s1 := .one .bool) (fun (x : Bool) h' => x = true ∧ Ext h.size h h') (fun _ (x : Bool) h' hJ => hJ) ?_
    refine brT (word_Fail_ok R9 (brT ?_))
    refine word_Text_ok R9 hF fun h10 st10 => ?_
    rw [mText_bad] at st10 ⊢
    obtain ⟨R10, u10, z10⟩ := st10
    refine brY (by rw [strB_toList, show (⟨#[]⟩ : ByteArray) = strB [] from rfl, strB_toList]; rfl) ?_
    refine word_Bool_ok R10 hF fun h11 st11 => ?_
    rw [mBool_bad] at st11 ⊢
    obtain ⟨R11, u11, z11⟩ := st11
    refine brY rfl (word_Left_ok R11 ⟨rfl, ?_⟩)
    have hB : h.size ≤ p := Nat.le_trans e0.1 h0p
    have hB9 : h.size ≤ h9.size := E9'.1
    exact (E9'.trans (u10.ext1 hB hB9)).trans (u11.ext1 hB (by omega))
  refine brD (fun hc => bad (by omega)) fun hc => brD (fun hc' => bad (by omega)) fun hc' => ?_
  have hin : least ≤ n ∧ n ≤ most := by omega
  rw [if_pos hin] at R9 ⊢
  refine word_Text_ok R9 hF fun h10 st10 => ?_
  have R9 := R9
  rw [← hL] at st10 R9 ⊢
  rw [mText_puts] at st10 ⊢
  obtain ⟨R10, u10, z10⟩ := st10
  refine brY (by simp) ?_
  have e0s : (if 65535 < (s.size : Int) then 65535 else (s.size : Int)) = ((min s.size 65535 : Nat) : Int) := by split <;> omega
  rw [e0s]
  refine cutS TXT 0 (min s.size 65535) lo0 (hii rfl) (by omega) (by omega) ?_
  have hex : s.extract 0 (min s.size 65535) = strB (s.data.toList.take 65535) := by
    conv => lhs; rw [← strB_of s]
    rw [extract_strB]
    simp only [List.drop_zero, Nat.sub_zero, hsz, strB_size]
    congr 1
    rw [List.take_eq_take_iff, hsz]; omega
  rw [hex]
  refine brY (by simp) ?_
  refine word_Bool_ok R10 hF fun h11 st11 => ?_
  rw [mBool_puts] at st11 ⊢
  obtain ⟨R11, u11, z11⟩ := st11
  refine brY (by simp) (word_Done_ok R11 ⟨rfl, ?_⟩)
  have hB : h.size ≤ p := Nat.le_trans e0.1 h0p
  have hB9 : h.size ≤ h9.size := E9'.1
  exact (E9'.trans (u10.ext1 hB hB9)).trans (u11.ext1 hB (by omega))
end Go.Proofs.Ytfafikomhbedbaa
