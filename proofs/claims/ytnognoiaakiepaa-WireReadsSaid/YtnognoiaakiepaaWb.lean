/-
  Layer 1 (word): the document's reader, over a row of things.
-/
import Derived.Test.YtnognoiaakiepaaWa
namespace Go.Proofs.Ytnognoiaakiepaa
open Go

theorem strB_get (l : List UInt8) (k : Nat) (hk : k < l.length) : (strB l)[k]? = some l[k] := by
  have h1 : k < (strB l).size := by rw [strB_size]; exact hk
  rw [getElem?_pos (strB l) k h1]
  simp [strB, ByteArray.getElem_eq_getElem_data]
theorem ixS {l : List UInt8} {i : Int} {K : Int → Prop} (k : Nat) (hi : i = (k : Int)) (hk : k < l.length) (hK : K (l[k].toNat : Int)) : IxS (strB l) i K := by
  subst hi
  exact ⟨l[k], by omega, by rw [Int.toNat_natCast]; exact strB_get l k hk, hK⟩

/-- The document's reader. -/
def qrd (q : Nat) (ty : TypeId) (l : List UInt8) (bad : Bool) : Res := .blk q ty [.string (strB l), .bool bad]
section
variable {h0 h : Heap} {F : List Res} {q : Nat} {ty : TypeId} {bad : Bool} {l : List UInt8}
theorem ref_fail {R : Heap → Prop} (H : At h0 h (qrd q ty l bad :: F)) (hR : ∀ h', At h0 h' (qrd q ty [] true :: F) → R h') :
    Nn (some (⟨q, 0, none⟩ : Addr)) fun p1 => St h (p1.add 1) (.bool true) fun h_ => Nn (some (⟨q, 0, none⟩ : Addr)) fun p2 => St h_ p2 (.string (⟨#[]⟩ : ByteArray)) fun h_1 => R h_1 :=
  nn (stAt H 0 rfl (by rfl) fun h3 H => nn (stAt0 H 0 rfl (by rfl) fun h4 H => hR h4 H))
theorem ref01_part_ok {n : Int} {R : ByteArray → Heap → Prop} (H : At h0 h (qrd q ty l bad :: F)) (k : Nat) (hn : n = (k : Int))
    (h1 : (bad = true ∨ l.length < k) → ∀ h', At h0 h' (qrd q ty [] true :: F) → R (strB []) h')
    (h2 : bad = false → k ≤ l.length → ∀ h', At h0 h' (qrd q ty (l.drop k) false :: F) → R (strB (l.take k)) h') : C_ref01_Reader_part (some ⟨q, 0, none⟩) n h R := by
  refine A_ref01_Reader_part ?_
  unfold S_ref01_Reader_part
  subst hn
  have fl : (bad = true ∨ l.length < k) → Nn (some (⟨q, 0, none⟩ : Addr)) fun p1 => St h (p1.add 1) (.bool true) fun h_ => Nn (some (⟨q, 0, none⟩ : Addr)) fun p2 => St h_ p2 (.string (⟨#[]⟩ : ByteArray)) fun h_1 => R (⟨#[]⟩ : ByteArray) h_1 := fun hf =>
    ref_fail H fun h4 H => h1 hf h4 H
  refine nn (ldAt H 0 rfl bad rfl ?_)
  cases bad with
  | true => exact fl (.inl rfl)
  | false =>
    refine brF (nn (ldAt0 H 0 rfl (strB l) rfl (brD (fun hlt => ?_) fun hge => ?_)))
    · exact fl (.inr (by rw [strB_size] at hlt; omega))
    · rw [strB_size] at hge
      refine nn (ldAt0 H 0 rfl (strB l) rfl (cutS TXT 0 k lo0 (hii rfl) (by omega) (by rw [strB_size]; omega) ?_))
      refine nn (ldAt0 H 0 rfl (strB l) rfl (cutS TXT k (strB l).size (loi rfl) (hi0 _) (by rw [strB_size]; omega) (Nat.le_refl _) ?_))
      have e1 : (strB l).extract 0 k = strB (l.take k) := by rw [extract_strB]; simp
      have e2 : (strB l).extract k (strB l).size = strB (l.drop k) := by
        rw [extract_strB, strB_size, List.take_of_length_le (by rw [List.length_drop]; omega)]
      rw [e1, e2]
      exact nn (stAt0 H 0 rfl (by rfl) fun h4 H => h2 rfl (by omega) h4 H)
theorem ref01_RInt_ok {least most : Int} {R : Int → Heap → Prop} (H : At h0 h (qrd q ty l bad :: F))
    (hR : ∀ h', At h0 h' (qrd q ty (mInt bad l least most).2.1 (mInt bad l least most).1 :: F) → R (mInt bad l least most).2.2 h') : C_ref01_Reader_Int (some ⟨q, 0, none⟩) least most h R := by
  refine A_ref01_Reader_Int ?_
  unfold S_ref01_Reader_Int
  refine ref01_part_ok H 8 rfl (fun hf h1 H => ?_) fun hb hle h1 H => ?_
  · have hm : mInt bad l least most = (true, [], 0) := by unfold mInt; rw [if_pos hf]
    rw [hm] at hR
    exact nn (ldAt H 0 rfl true rfl (brT (hR h1 H)))
  · have hlen : (l.take 8).length = 8 := by rw [List.length_take]; omega
    have hm : mInt bad l least most = if least ≤ IntKind.i64.wrap (valBE (l.take 8)) ∧ IntKind.i64.wrap (valBE (l.take 8)) ≤ most then (false, l.drop 8, IntKind.i64.wrap (valBE (l.take 8))) else (true, [], 0) := by
      unfold mInt; rw [if_neg (by rw [hb]; rintro (h0 | h0); exact Bool.noConfusion h0; omega)]
    refine nn (ldAt H 0 rfl false rfl (brF ?_))
    refine loop2 (s1 := .one (.int .u64)) (s2 := .one (.int .i64)) (fun (u i : Int) h2 => ∃ k : Nat, k ≤ 8 ∧ i = k ∧ u = valBE ((l.take 8).take k) ∧ h2 = h1) (fun _ (x : Int) _ => (8 - x).toNat) ⟨0, by decide, rfl, by simp [valBE], rfl⟩ fun _ (u : Int) (i : Int) h2 hI => ?_
    obtain ⟨k, hk, rfl, rfl, rfl⟩ := hI
    refine brD (fun hc => ?_) fun hc => ?_
    · have hk8 : k < (l.take 8).length := by omega
      refine ixS k rfl hk8 (let_ (let_ ?_))
      have hv2 := valBE8 (l := l.take 8) (k := k + 1) (by omega)
      have hb8 := ((l.take 8)[k]).toNat_lt
      have hs := take_snoc (l.take 8) k hk8
      have e1 : IntKind.u64.wrap (IntKind.u64.wrap ((valBE ((l.take 8).take k) : Int) * 256) + IntKind.u64.wrap (((l.take 8)[k]).toNat : Int)) = (valBE ((l.take 8).take (k + 1)) : Int) := by
        rw [hs, valBE_snoc] at hv2 ⊢
        generalize valBE ((l.take 8).take k) = u at *
        generalize ((l.take 8)[k]).toNat = c at *
        rw [wu64 (n := (u : Int) * 256) (by omega) (by omega), wu64 (n := (c : Int)) (by omega) (by omega), wu64 (by omega) (by omega)]
        omega
      rw [e1, w64 (by omega) (by omega)]
      exact ⟨⟨k + 1, by omega, by omega, rfl, rfl⟩, by omega⟩
    · have hk8 : k = 8 := by omega
      subst hk8
      rw [show (l.take 8).take 8 = l.take 8 by rw [List.take_take]; simp]
      refine brD (fun c1 => ?_) fun c1 => brD (fun c2 => ?_) fun c2 => ?_
      · rw [hm, if_neg (by omega)] at hR
        exact ref_fail H fun h3 H => hR h3 H
      · rw [hm, if_neg (by omega)] at hR
        exact ref_fail H fun h3 H => hR h3 H
      · rw [hm, if_pos (by omega)] at hR
        exact hR _ H
theorem ref01_RText_ok {most : Int} {R : ByteArray → Heap → Prop} (H : At h0 h (qrd q ty l bad :: F))
    (hR : ∀ h', At h0 h' (qrd q ty (mText bad l most).2.1 (mText bad l most).1 :: F) → R (strB (mText bad l most).2.2) h') : C_ref01_Reader_Text (some ⟨q, 0, none⟩) most h R := by
  refine A_ref01_Reader_Text ?_
  unfold S_ref01_Reader_Text
  refine ref01_part_ok H 2 rfl (fun hf h1 H => ?_) fun hb hle h1 H => ?_
  · have hm : mText bad l most = (true, [], []) := by unfold mText; rw [if_pos hf]
    rw [hm] at hR
    exact nn (ldAt H 0 rfl true rfl (brT (hR h1 H)))
  · have h2l : (l.take 2).length = 2 := by rw [List.length_take]; omega
    have hm : mText bad l most = if most < valBE (l.take 2) then (true, [], [])
        else if (l.drop 2).length < valBE (l.take 2) then (true, [], [])
        else (false, (l.drop 2).drop (valBE (l.take 2)), (l.drop 2).take (valBE (l.take 2))) := by
      unfold mText; rw [if_neg (by rw [hb]; rintro (h0 | h0); exact Bool.noConfusion h0; omega)]
    have hv : valBE (l.take 2) = ((l.take 2)[0]).toNat * 256 + ((l.take 2)[1]).toNat := by
      have := valBE_take2 (l := l.take 2) (by omega)
      rwa [List.take_take] at this
    have b0 := ((l.take 2)[0]).toNat_lt
    have b1 := ((l.take 2)[1]).toNat_lt
    refine nn (ldAt H 0 rfl false rfl (brF (ixS 0 rfl (by omega) (ixS 1 rfl (by omega) (let_ ?_)))))
    have e1 : IntKind.i64.wrap (IntKind.i64.wrap (IntKind.i64.wrap (((l.take 2)[0]).toNat : Int) * 256) + IntKind.i64.wrap (((l.take 2)[1]).toNat : Int)) = (valBE (l.take 2) : Int) := by
      rw [hv]
      generalize ((l.take 2)[0]).toNat = u at *
      generalize ((l.take 2)[1]).toNat = c at *
      rw [w64 (n := (u : Int)) (by omega) (by omega), w64 (n := (u : Int) * 256) (by omega) (by omega), w64 (n := (c : Int)) (by omega) (by omega), w64 (by omega) (by omega)]
      omega
    rw [e1]
    refine brD (fun c1 => ?_) fun c1 => ?_
    · rw [hm, if_pos (by omega)] at hR
      exact ref_fail H fun h3 H => hR h3 H
    · rw [if_neg (by omega)] at hm
      refine ref01_part_ok H (valBE (l.take 2)) rfl (fun hf h3 H => ?_) fun _ hle3 h3 H => ?_
      · rw [hm, if_pos (hf.resolve_left (by simp))] at hR
        exact hR h3 H
      · rw [hm, if_neg (by omega)] at hR
        exact hR h3 H
theorem ref01_RBool_ok {R : Bool → Heap → Prop} (H : At h0 h (qrd q ty l bad :: F))
    (hR : ∀ h', At h0 h' (qrd q ty (mBool bad l).2.1 (mBool bad l).1 :: F) → R (mBool bad l).2.2 h') : C_ref01_Reader_Bool (some ⟨q, 0, none⟩) h R := by
  refine A_ref01_Reader_Bool ?_
  unfold S_ref01_Reader_Bool
  refine ref01_part_ok H 1 rfl (fun hf h1 H => ?_) fun hb hle h1 H => ?_
  · have hm : mBool bad l = (true, [], false) := by unfold mBool; rw [if_pos hf]
    rw [hm] at hR
    exact nn (ldAt H 0 rfl true rfl (brT (hR h1 H)))
  · have h1l : (l.take 1).length = 1 := by rw [List.length_take]; omega
    have hv : valBE (l.take 1) = ((l.take 1)[0]).toNat := by
      have := valBE_take1 (l := l.take 1) (by omega)
      rwa [List.take_take] at this
    have hm : mBool bad l = if 1 < valBE (l.take 1) then (true, [], false) else (false, l.drop 1, valBE (l.take 1) == 1) := by
      unfold mBool; rw [if_neg (by rw [hb]; rintro (h0 | h0); exact Bool.noConfusion h0; omega)]
    refine nn (ldAt H 0 rfl false rfl (brF (ixS 0 rfl (by omega) (brD (fun c1 => ?_) fun c1 => ?_))))
    · rw [hm, if_pos (by omega)] at hR
      exact ref_fail H fun h3 H => hR h3 H
    · rw [hm, if_neg (by omega)] at hR
      refine ixS 0 rfl (by omega) ?_
      have e1 : (((((l.take 1)[0]).toNat : Nat) : Int) == 1) = (valBE (l.take 1) == 1) := by
        rw [hv]; rw [Bool.eq_iff_iff]; simp only [beq_iff_eq]; omega
      rw [e1]
      exact hR _ H
end

end Go.Proofs.Ytnognoiaakiepaa
