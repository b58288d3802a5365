/-
  Layer 1 (word): the readers, the program's and the reference's, answer as one model.
-/
import Derived.Test.YtfafikomhbedbaaW1
import Derived.Test.YtfafikomhbedbaaRc
namespace Go.Proofs.Ytfafikomhbedbaa
open Go

/-! ## The model: whether it failed, what is left, the answer -/
def mInt (bad : Bool) (l : List UInt8) (least most : Int) : Bool × List UInt8 × Int :=
  if bad = true ∨ l.length < 8 then (true, [], 0)
  else if least ≤ IntKind.i64.wrap (valBE (l.take 8)) ∧ IntKind.i64.wrap (valBE (l.take 8)) ≤ most then (false, l.drop 8, IntKind.i64.wrap (valBE (l.take 8))) else (true, [], 0)
def mText (bad : Bool) (l : List UInt8) (most : Int) : Bool × List UInt8 × List UInt8 :=
  if bad = true ∨ l.length < 2 then (true, [], [])
  else if most < valBE (l.take 2) then (true, [], [])
  else if (l.drop 2).length < valBE (l.take 2) then (true, [], [])
  else (false, (l.drop 2).drop (valBE (l.take 2)), (l.drop 2).take (valBE (l.take 2)))
def mBool (bad : Bool) (l : List UInt8) : Bool × List UInt8 × Bool :=
  if bad = true ∨ l.length < 1 then (true, [], false)
  else if 1 < valBE (l.take 1) then (true, [], false) else (false, l.drop 1, valBE (l.take 1) == 1)

theorem byte_lt (b : UInt8) : (b.toNat : Int) < 256 := by have := b.toNat_lt; omega
theorem cB_get (l : List UInt8) (j : Nat) (hj : j < l.length) : (cB l)[j]? = some (.int .u8 (l[j].toNat : Int)) := by
  simp [cB, List.getElem?_eq_getElem hj]
theorem ixB {h : Heap} {s : Sl} {l : List UInt8} {i : Int} {K : Int → Prop} (hr : RdS h 1 s (cB l)) (k : Nat) (hi : i = (k : Int)) (hk : k < l.length) (hK : K (l[k].toNat : Int)) :
    Ix s i 1 fun e => Ld (.int .u8) h e K := by
  subst hi
  have hlen : l.length = s.n := by have := hr.1; rw [cB_length] at this; omega
  refine ix hr (by omega) (by omega) (by decide) fun g o _ hc => ?_
  have := hc 0 (by decide)
  simp only [Nat.add_zero, Int.toNat_natCast, Nat.mul_one] at this
  exact ld _ (this.trans (cB_get l k hk)) hK

theorem valBE8 {l : List UInt8} {k : Nat} (hk : k ≤ 8) : valBE (l.take k) < 18446744073709551616 := by
  have h1 := valBE_lt (l.take k)
  have h2 : (l.take k).length ≤ 8 := by rw [List.length_take]; omega
  have h3 : 256 ^ (l.take k).length ≤ 256 ^ 8 := Nat.pow_le_pow_right (by decide) h2
  have h4 : (256 : Nat) ^ 8 = 18446744073709551616 := by decide
  omega
theorem valBE2 {l : List UInt8} : valBE (l.take 2) < 65536 := by
  have h1 := valBE_lt (l.take 2)
  have h2 : (l.take 2).length ≤ 2 := by rw [List.length_take]; omega
  have h3 : 256 ^ (l.take 2).length ≤ 256 ^ 2 := Nat.pow_le_pow_right (by decide) h2
  have h4 : (256 : Nat) ^ 2 = 65536 := by decide
  omega
theorem valBE_take2 {l : List UInt8} (h : 2 ≤ l.length) : valBE (l.take 2) = l[0].toNat * 256 + l[1].toNat := by
  rw [take_snoc l 1 (by omega), valBE_snoc, take_snoc l 0 (by omega), valBE_snoc]
  simp [valBE]
theorem valBE_take1 {l : List UInt8} (h : 1 ≤ l.length) : valBE (l.take 1) = l[0].toNat := by
  rw [take_snoc l 0 (by omega), valBE_snoc]
  simp [valBE]

section
variable {F : Nat → Prop} {h : Heap} {p : Nat} {bad : Bool} {l : List UInt8}
/-- What a step of a reader leaves. -/
def Stp (F : Nat → Prop) (h : Heap) (p : Nat) (bad : Bool) (l : List UInt8) (h' : Heap) : Prop := RRep F h' p bad l ∧ Upd (· = p) h h' ∧ h'.size = h.size
theorem word_Int_ok {least most : Int} {R : Int → Heap → Prop} (hr : RRep F h p bad l) (hF : ¬ F p)
    (hR : ∀ h', Stp F h p (mInt bad l least most).1 (mInt bad l least most).2.1 h' → R (mInt bad l least most).2.2 h') : C_word_Reader_Int (some ⟨p, 0, none⟩) least most h R := by
  refine A_word_Reader_Int ?_
  unfold S_word_Reader_Int
  refine word_part_ok hr hF 8 rfl (fun hf h1 r1 u1 z1 => ?_) fun hb hle s h1 r1 u1 z1 rd hn hne => ?_
  · -- it failed: nothing to go over
    have hm : mInt bad l least most = (true, [], 0) := by unfold mInt; rw [if_pos (hf)]
    rw [hm] at hR
    refine loop2 (s1 := .one (.int .u64)) (s2 := .one (.int .i64)) (fun (u x : Int) h2 => u = 0 ∧ x = 0 ∧ h2 = h1) (fun _ _ _ => 0) ⟨rfl, rfl, rfl⟩ fun _ (u : Int) (x : Int) h2 hI => ?_
    obtain ⟨rfl, rfl, rfl⟩ := hI
    refine brD (fun hc => absurd hc (by decide)) fun _ => ?_
    refine word_fail_ok r1 fun h3 r3 u3 z3 => hR h3 ⟨r3, u1.trans u3 (fun _ _ h => h) (fun _ _ h => h), by omega⟩
  · have hlen : (l.take 8).length = 8 := by rw [List.length_take]; omega
    have hn8 : s.n = 8 := hn
    refine loop2 (s1 := .one (.int .u64)) (s2 := .one (.int .i64)) (fun (u x : Int) h2 => ∃ k : Nat, k ≤ 8 ∧ x = k ∧ u = valBE ((l.take 8).take k) ∧ h2 = h1) (fun _ (x : Int) _ => (8 - x).toNat) ⟨0, by decide, rfl, by simp [valBE], rfl⟩ fun _ (u : Int) (x : Int) h2 hI => ?_
    obtain ⟨k, hk, rfl, rfl, rfl⟩ := hI
    refine brD (fun hc => ?_) fun hc => ?_
    · have hk8 : k < (l.take 8).length := by omega
      refine ixB (rd) k rfl hk8 (nneg (by decide) (let_ ?_))
      have hv := valBE8 (l := l.take 8) (k := k) hk
      have hv2 := valBE8 (l := l.take 8) (k := k + 1) (by omega)
      have hb8 := ((l.take 8)[k]).toNat_lt
      have hs := take_snoc (l.take 8) k hk8
      have e1 : bitV .or .u64 (shiftV .shl .u64 (valBE ((l.take 8).take k) : Int) 8) (IntKind.u64.wrap (((l.take 8)[k]).toNat : Int)) = (valBE ((l.take 8).take (k + 1)) : Int) := by
        rw [hs, valBE_snoc] at hv2 ⊢
        exact shl_or_u64 hb8 hv2
      rw [e1, w64 (by omega) (by omega)]
      exact ⟨⟨k + 1, by omega, by omega, rfl, rfl⟩, by omega⟩
    · have hk8 : k = 8 := by omega
      subst hk8
      rw [show (l.take 8).take 8 = l.take 8 by rw [List.take_take]; simp]
      have hns : s.a.isNone = false := by cases ha : s.a with
        | none => exact absurd ha (hne (by decide))
        | some a => rfl
      have hbad : bad = false := hb
      have hm : mInt bad l least most = if least ≤ IntKind.i64.wrap (valBE (l.take 8)) ∧ IntKind.i64.wrap (valBE (l.take 8)) ≤ most then (false, l.drop 8, IntKind.i64.wrap (valBE (l.take 8))) else (true, [], 0) := by
        unfold mInt; rw [if_neg (by rw [hbad]; simp; omega)]
      refine let_ ?_
      rw [hns]
      refine brT ?_
      have fl : ¬ (least ≤ IntKind.i64.wrap (valBE (l.take 8)) ∧ IntKind.i64.wrap (valBE (l.take 8)) ≤ most) → C_word_Reader_fail (some ⟨p, 0, none⟩) h2 fun h3 => R 0 h3 := fun hno => by
        rw [hm, if_neg hno] at hR
        exact word_fail_ok r1 fun h3 r3 u3 z3 => hR h3 ⟨r3, u1.trans u3 (fun _ _ h => h) (fun _ _ h => h), by omega⟩
      refine brD (fun c1 => brD (fun c2 => ?_) fun c2 => fl fun hx => c2 hx.2) fun c1 => fl fun hx => c1 hx.1
      rw [hm, if_pos ⟨c1, c2⟩] at hR
      exact hR _ ⟨r1, u1, z1⟩

theorem word_Text_ok {most : Int} {R : ByteArray → Heap → Prop} (hr : RRep F h p bad l) (hF : ¬ F p)
    (hR : ∀ h', Stp F h p (mText bad l most).1 (mText bad l most).2.1 h' → R (strB (mText bad l most).2.2) h') : C_word_Reader_Text (some ⟨p, 0, none⟩) most h R := by
  refine A_word_Reader_Text ?_
  unfold S_word_Reader_Text
  refine word_part_ok hr hF 2 rfl (fun hf h1 r1 u1 z1 => ?_) fun hb hle s h1 r1 u1 z1 rd hn hne => ?_
  · have hm : mText bad l most = (true, [], []) := by unfold mText; rw [if_pos (hf)]
    rw [hm] at hR
    exact hR h1 ⟨r1, u1, z1⟩
  · have h2l : (l.take 2).length = 2 := by rw [List.length_take]; omega
    have hns : s.a.isNone = false := by cases ha : s.a with
      | none => exact absurd ha (hne (by decide))
      | some a => rfl
    rw [hns]
    refine brF ?_
    refine ixB rd 0 rfl (by omega) (nneg (by decide) (ixB rd 1 rfl (by omega) (let_ ?_)))
    have b0 := ((l.take 2)[0]).toNat_lt
    have b1 := ((l.take 2)[1]).toNat_lt
    have hv : valBE (l.take 2) = ((l.take 2)[0]).toNat * 256 + ((l.take 2)[1]).toNat := by
      have := valBE_take2 (l := l.take 2) (by omega)
      rwa [List.take_take] at this
    have e1 : bitV .or .i64 (shiftV .shl .i64 (IntKind.i64.wrap (((l.take 2)[0]).toNat : Int)) 8) (IntKind.i64.wrap (((l.take 2)[1]).toNat : Int)) = (valBE (l.take 2) : Int) := by
      rw [shl_or_i64 b1 (by omega), hv]
    rw [e1]
    have hbad : bad = false := hb
    have hm : mText bad l most = if most < valBE (l.take 2) then (true, [], [])
        else if (l.drop 2).length < valBE (l.take 2) then (true, [], [])
        else (false, (l.drop 2).drop (valBE (l.take 2)), (l.drop 2).take (valBE (l.take 2))) := by
      unfold mText; rw [if_neg (by rw [hbad]; simp; omega)]
    refine brD (fun c1 => ?_) fun c1 => ?_
    · rw [hm, if_pos (by omega)] at hR
      exact word_fail_ok r1 fun h3 r3 u3 z3 => hR h3 ⟨r3, u1.trans u3 (fun _ _ h => h) (fun _ _ h => h), by omega⟩
    · rw [if_neg (by omega)] at hm
      have r1' : RRep F h1 p false (l.drop 2) := r1
      refine word_part_ok r1' hF (valBE (l.take 2)) rfl (fun hf h3 r3 u3 z3 => ?_) fun _ hle3 s3 h3 r3 u3 z3 rd3 _ _ => ?_
      · have hf' : (l.drop 2).length < valBE (l.take 2) := by
          rcases hf with hf | hf
          · cases hf
          · omega
        rw [hm, if_pos hf'] at hR
        refine toS BT (l := []) (RdS.nil _ _ _ _) ?_
        exact hR h3 ⟨r3, u1.trans u3 (fun _ _ h => h) (fun _ _ h => h), by omega⟩
      · rw [hm, if_neg (by omega)] at hR
        refine toS BT (l := (l.drop 2).take (valBE (l.take 2))) rd3 ?_
        exact hR h3 ⟨r3, u1.trans u3 (fun _ _ h => h) (fun _ _ h => h), by omega⟩

theorem word_Bool_ok {R : Bool → Heap → Prop} (hr : RRep F h p bad l) (hF : ¬ F p)
    (hR : ∀ h', Stp F h p (mBool bad l).1 (mBool bad l).2.1 h' → R (mBool bad l).2.2 h') : C_word_Reader_Bool (some ⟨p, 0, none⟩) h R := by
  refine A_word_Reader_Bool ?_
  unfold S_word_Reader_Bool
  refine word_part_ok hr hF 1 rfl (fun hf h1 r1 u1 z1 => ?_) fun hb hle s h1 r1 u1 z1 rd hn hne => ?_
  · have hm : mBool bad l = (true, [], false) := by unfold mBool; rw [if_pos (hf)]
    rw [hm] at hR
    refine word_fail_ok r1 fun h3 r3 u3 z3 => hR h3 ⟨r3, u1.trans u3 (fun _ _ h => h) (fun _ _ h => h), by omega⟩
  · have h1l : (l.take 1).length = 1 := by rw [List.length_take]; omega
    have hns : s.a.isNone = false := by cases ha : s.a with
      | none => exact absurd ha (hne (by decide))
      | some a => rfl
    rw [hns]
    refine brF ?_
    have hv : valBE (l.take 1) = ((l.take 1)[0]).toNat := by
      have := valBE_take1 (l := l.take 1) (by omega)
      rwa [List.take_take] at this
    have hbad : bad = false := hb
    have hm : mBool bad l = if 1 < valBE (l.take 1) then (true, [], false) else (false, l.drop 1, valBE (l.take 1) == 1) := by
      unfold mBool; rw [if_neg (by rw [hbad]; rintro (h0 | h0); exact Bool.noConfusion h0; omega)]
    refine ixB rd 0 rfl (by omega) (brD (fun c1 => ?_) fun c1 => ?_)
    · rw [hm, if_pos (by omega)] at hR
      exact word_fail_ok r1 fun h3 r3 u3 z3 => hR h3 ⟨r3, u1.trans u3 (fun _ _ h => h) (fun _ _ h => h), by omega⟩
    · rw [hm, if_neg (by omega)] at hR
      refine ixB rd 0 rfl (by omega) ?_
      have e1 : (((((l.take 1)[0]).toNat : Nat) : Int) == 1) = (valBE (l.take 1) == 1) := by
        rw [hv]; rw [Bool.eq_iff_iff]; simp only [beq_iff_eq]; omega
      rw [e1]
      exact hR _ ⟨r1, u1, z1⟩
theorem word_Left_ok {R : Int → Heap → Prop} (hr : RRep F h p bad l) (hR : R (l.length : Int) h) : C_word_Reader_Left (some ⟨p, 0, none⟩) h R := by
  refine A_word_Reader_Left ?_
  obtain ⟨t, s, h1, h2, _⟩ := hr
  have hlen : l.length = s.n := by have := h2.1; rw [cB_length] at this; omega
  exact nn (ldB h1 s rfl (by rw [hlen] at hR; exact hR))
theorem word_Done_ok {R : Bool → Heap → Prop} (hr : RRep F h p bad l) (hR : R (!bad && l.isEmpty) h) : C_word_Reader_Done (some ⟨p, 0, none⟩) h R := by
  refine A_word_Reader_Done ?_
  unfold S_word_Reader_Done
  refine word_Fail_ok hr ?_
  cases bad with
  | true => exact hR
  | false =>
    obtain ⟨t, s, h1, h2, _⟩ := hr
    have hlen : l.length = s.n := by have := h2.1; rw [cB_length] at this; omega
    refine nn (ldB h1 s rfl ?_)
    have : (((s.n : Nat) : Int) == 0) = l.isEmpty := by
      rw [← hlen, Bool.eq_iff_iff]; simp only [beq_iff_eq, List.isEmpty_iff, List.length_eq_zero_iff.symm]; omega
    rw [this]
    exact hR
end
theorem word_Left_nil {h : Heap} {R : Int → Heap → Prop} (hR : R 0 h) : C_word_Reader_Left none h R := A_word_Reader_Left hR
theorem word_part_nil {h : Heap} {n : Int} {R : Sl → Heap → Prop} (hR : R ⟨none, 0, 0⟩ h) : C_word_Reader_part none n h R := by
  refine A_word_Reader_part ?_
  unfold S_word_Reader_part
  exact word_Fail_nil (word_fail_nil hR)
theorem word_Int_nil {h : Heap} {least most : Int} {R : Int → Heap → Prop} (hR : R 0 h) : C_word_Reader_Int none least most h R := by
  refine A_word_Reader_Int ?_
  unfold S_word_Reader_Int
  refine word_part_nil ?_
  refine loop2 (s1 := .one (.int .u64)) (s2 := .one (.int .i64)) (fun (u x : Int) h2 => u = 0 ∧ x = 0 ∧ h2 = h) (fun _ _ _ => 0) ⟨rfl, rfl, rfl⟩ fun _ (u : Int) (x : Int) h2 hI => ?_
  obtain ⟨rfl, rfl, rfl⟩ := hI
  exact brD (fun hc => absurd hc (by decide)) fun _ => word_fail_nil hR
end Go.Proofs.Ytfafikomhbedbaa
