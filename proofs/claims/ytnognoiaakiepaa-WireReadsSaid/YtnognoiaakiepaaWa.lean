/-
  Layer 1 (word): the program's reader and puts, over a row of things.
-/
import Derived.Test.YtnognoiaakiepaaRg
import Derived.Test.YtnognoiaakiepaaC2
import Derived.Test.YtnognoiaakiepaaBC
import Derived.Test.YtnognoiaakiepaaSA
namespace Go.Proofs.Ytnognoiaakiepaa
open Go

theorem TB : ElemT Try.prog 22 5 1 1 := .of (by kernel_rfl)
theorem TXT : Try.prog.underlying 9 = some .string := by kernel_rfl
/-! ## The model: whether it failed, what is left, the answer -/
def mInt (bad : Bool) (l : List UInt8) (least most : Int) : Bool × List UInt8 × Int :=
  if bad = true ∨ l.length < 8 then (true, [], 0)
  else if least ≤ IntKind.i64.wrap (valBE (l.take 8)) ∧ IntKind.i64.wrap (valBE (l.take 8)) ≤ most then (false, l.drop 8, IntKind.i64.wrap (valBE (l.take 8))) else (true, [], 0)
def mText (bad : Bool) (l : List UInt8) (most : Int) : Bool × List UInt8 × List UInt8 :=
  if bad = true ∨ l.length < 2 then (true, [], [])
  else if most < valBE (l.take 2) then (true, [], [])
  else if (l.drop 2).length < valBE (l.take 2) then (true, [], [])
  else (false, (l.drop 2).drop (valBE (l.take 2)), (l.drop 2).take (valBE (l.take 2)))
def mBool (bad : Bool) (l : List UInt8) : Bool × List UInt8 × Bool :=
  if bad = true ∨ l.length < 1 then (true, [], false)
  else if 1 < valBE (l.take 1) then (true, [], false) else (false, l.drop 1, valBE (l.take 1) == 1)

theorem byte_lt (b : UInt8) : (b.toNat : Int) < 256 := by have := b.toNat_lt; omega
theorem cB_get (l : List UInt8) (j : Nat) (hj : j < l.length) : (cB l)[j]? = some (.int .u8 (l[j].toNat : Int)) := by
  simp [cB, List.getElem?_eq_getElem hj]
theorem ixB {h : Heap} {s : Sl} {l : List UInt8} {i : Int} {K : Int → Prop} (hr : RdS h 1 s (cB l)) (k : Nat) (hi : i = (k : Int)) (hk : k < l.length) (hK : K (l[k].toNat : Int)) :
    Ix s i 1 fun e => Ld (.int .u8) h e K := by
  subst hi
  have hlen : l.length = s.n := by have := hr.1; rw [cB_length] at this; omega
  refine ix hr (by omega) (by omega) (by decide) fun g o _ hc => ?_
  have := hc 0 (by decide)
  simp only [Nat.add_zero, Int.toNat_natCast, Nat.mul_one] at this
  exact ld _ (this.trans (cB_get l k hk)) hK

theorem valBE8 {l : List UInt8} {k : Nat} (hk : k ≤ 8) : valBE (l.take k) < 18446744073709551616 := by
  have h1 := valBE_lt (l.take k)
  have h2 : (l.take k).length ≤ 8 := by rw [List.length_take]; omega
  have h3 : 256 ^ (l.take k).length ≤ 256 ^ 8 := Nat.pow_le_pow_right (by decide) h2
  have h4 : (256 : Nat) ^ 8 = 18446744073709551616 := by decide
  omega
theorem valBE2 {l : List UInt8} : valBE (l.take 2) < 65536 := by
  have h1 := valBE_lt (l.take 2)
  have h2 : (l.take 2).length ≤ 2 := by rw [List.length_take]; omega
  have h3 : 256 ^ (l.take 2).length ≤ 256 ^ 2 := Nat.pow_le_pow_right (by decide) h2
  have h4 : (256 : Nat) ^ 2 = 65536 := by decide
  omega
theorem valBE_take2 {l : List UInt8} (h : 2 ≤ l.length) : valBE (l.take 2) = l[0].toNat * 256 + l[1].toNat := by
  rw [take_snoc l 1 (by omega), valBE_snoc, take_snoc l 0 (by omega), valBE_snoc]
  simp [valBE]
theorem valBE_take1 {l : List UInt8} (h : 1 ≤ l.length) : valBE (l.take 1) = l[0].toNat := by
  rw [take_snoc l 0 (by omega), valBE_snoc]
  simp [valBE]


/-! ## A slice of a source: it reads as a part of that one, in whichever heap -/
theorem rds_cut {h : Heap} {sz : Nat} {s : Sl} {xs : List Value} (hr : RdS h sz s xs) (l u m : Nat) (h1 : l ≤ u) (hu : u ≤ s.n) (h2 : u ≤ m) : RdS h sz (cutSl s sz l u m) ((xs.drop (l * sz)).take ((u - l) * sz)) := by
  refine ⟨?_, fun hp => ?_⟩
  · have e1 : (u - l) * sz + l * sz ≤ s.n * sz := by rw [← Nat.add_mul]; exact Nat.mul_le_mul_right _ (by omega)
    rw [List.length_take, List.length_drop, hr.1]
    show min ((u - l) * sz) _ = (u - l) * sz
    omega
  · rw [List.length_take, List.length_drop] at hp
    obtain ⟨g, o, ha, hx⟩ := hr.2 (by omega)
    have hne : m ≠ l := fun e => by
      have : u - l = 0 := by omega
      rw [this] at hp; simp at hp
    refine ⟨g, o + l * sz, by simp only [cutSl]; rw [if_neg hne, ha]; simp [add_at], fun j hj => ?_⟩
    rw [List.length_take, List.length_drop] at hj
    rw [Nat.add_assoc, hx _ (by omega), List.getElem?_take, if_pos (by omega), List.getElem?_drop]
structure RdF (q : Sl) (l0 : List UInt8) (s : Sl) (l : List UInt8) : Prop where
  rd : ∀ h, RdS h 1 q (cB l0) → RdS h 1 s (cB l)
  le : s.n ≤ s.c
  n : s.n = l.length
theorem RdF.nil (q : Sl) (l0 : List UInt8) : RdF q l0 ⟨none, 0, 0⟩ [] := ⟨fun _ _ => RdS.nil _ _ _ _, Nat.le_refl _, rfl⟩
theorem RdF.self {h : Heap} {q : Sl} {l0 : List UInt8} (hr : RdS h 1 q (cB l0)) (h1 : q.n ≤ q.c) : RdF q l0 q l0 := ⟨fun _ x => x, h1, rd_b hr⟩
theorem cutF {q s : Sl} {l0 l : List UInt8} {lo hi mx : Option Value} {K : Sl → Prop} (hs : RdF q l0 s l) (a b m : Nat) (hlo : LoIs lo a) (hhi : HiIs hi s.n b)
    (hmx : (mx = none ∧ m = s.c) ∨ (HiIs mx s.c m ∧ hi ≠ none)) (h1 : a ≤ b) (hu : b ≤ l.length) (h2 : b ≤ m) (h3 : m ≤ s.c)
    (hk : ∀ s', RdF q l0 s' ((l.drop a).take (b - a)) → s'.n = b - a → K s') : Cut Try.prog 22 s lo hi mx K := by
  have hn := hs.n
  refine cut_raw TB a b m hlo hhi hmx h1 h2 h3 (hk _ ⟨fun h hq => ?_, ?_, ?_⟩ rfl)
  · have := rds_cut (hs.rd h hq) a b m h1 (by omega) h2
    rwa [Nat.mul_one, Nat.mul_one, cB_drop, cB_take] at this
  · show b - a ≤ m - a; omega
  · show b - a = _; rw [List.length_take, List.length_drop]; omega
/-- A reader: its struct. -/
def rdr (p : Nat) (ty : TypeId) (s : Sl) (bad : Bool) : Res := .blk p ty [.slice s.a s.n s.c, .bool bad]
/-- Where its source is read, whatever the struct tells. -/
def Src (h0 : Heap) (p : Nat) (F : List Res) (q : Sl) (l0 : List UInt8) : Prop := ∀ h' ty cs, At h0 h' (.blk p ty cs :: F) → RdS h' 1 q (cB l0)
section
variable {h0 h : Heap} {F : List Res} {p : Nat} {ty : TypeId} {q s : Sl} {bad : Bool} {l0 l : List UInt8}
theorem word_Read_ok {L : List Res} {R : Option Addr → Heap → Prop} (H : At h0 h L) (hR : ∀ p ty h', At h0 h' (rdr p ty s false :: L) → R (some ⟨p, 0, none⟩) h') : C_word_Read s h R := by
  refine A_word_Read ?_
  unfold S_word_Read
  exact allocAt H fun h' b H => hR b _ h' H
theorem word_Fail_ok {R : Bool → Heap → Prop} (H : At h0 h (rdr p ty s bad :: F)) (hR : R bad h) : C_word_Reader_Fail (some ⟨p, 0, none⟩) h R := by
  refine A_word_Reader_Fail ?_
  exact nn (ldAt H 0 rfl bad rfl hR)
theorem word_fail_ok {R : Heap → Prop} (H : At h0 h (rdr p ty s bad :: F)) (hR : ∀ h', At h0 h' (rdr p ty ⟨none, 0, 0⟩ true :: F) → R h') : C_word_Reader_fail (some ⟨p, 0, none⟩) h R := by
  refine A_word_Reader_fail ?_
  exact nn (stAt H 0 rfl (by rfl) fun h2 H => nn (stAt0 H 0 rfl (by rfl) fun h3 H => hR h3 H))
theorem word_part_ok {n : Int} {R : Sl → Heap → Prop} (H : At h0 h (rdr p ty s bad :: F)) (hs : RdF q l0 s l) (hq : Src h0 p F q l0) (k : Nat) (hn : n = (k : Int))
    (h1 : (bad = true ∨ l.length < k) → ∀ h', At h0 h' (rdr p ty ⟨none, 0, 0⟩ true :: F) → R ⟨none, 0, 0⟩ h')
    (h2 : bad = false → k ≤ l.length → ∀ s1 s' h', At h0 h' (rdr p ty s' false :: F) → RdF q l0 s' (l.drop k) → RdF q l0 s1 (l.take k) → RdS h' 1 s1 (cB (l.take k)) → s1.n = k → R s1 h') :
    C_word_Reader_part (some ⟨p, 0, none⟩) n h R := by
  refine A_word_Reader_part ?_
  unfold S_word_Reader_part
  have hsn := hs.n
  have hsc := hs.le
  subst hn
  refine word_Fail_ok H ?_
  cases bad with
  | true => exact word_fail_ok H fun h' H => h1 (.inl rfl) h' H
  | false =>
    refine nn (ldAt0 H 0 rfl s rfl (brD (fun hlt => ?_) fun hge => ?_))
    · exact word_fail_ok H fun h' H => h1 (.inr (by omega)) h' H
    · refine nn (ldAt0 H 0 rfl s rfl (cutF hs 0 k s.c lo0 (hii rfl) (.inl ⟨rfl, rfl⟩) (by omega) (by omega) (by omega) (by omega) fun s1 r1 n1 => ?_))
      refine nn (ldAt0 H 0 rfl s rfl (cutF hs k s.n s.c (loi rfl) (hi0 _) (.inl ⟨rfl, rfl⟩) (by omega) (by omega) (by omega) (by omega) fun s2 r2 n2 => ?_))
      refine nn (stAt0 H 0 rfl (by rfl) fun h' H => ?_)
      rw [List.drop_zero, Nat.sub_zero] at r1
      rw [List.take_of_length_le (by rw [List.length_drop]; omega)] at r2
      exact h2 rfl (by omega) s1 s2 h' H r2 r1 (r1.rd _ (hq _ _ _ H)) (by omega)
theorem some_of_rd {h : Heap} {s : Sl} {l : List UInt8} (hr : RdS h 1 s (cB l)) (hp : 0 < l.length) : s.a.isNone = false := by
  obtain ⟨g, o, ha, _⟩ := hr.2 (by rw [cB_length]; exact hp)
  rw [ha]; rfl
theorem word_Int_ok {least most : Int} {R : Int → Heap → Prop} (H : At h0 h (rdr p ty s bad :: F)) (hs : RdF q l0 s l) (hq : Src h0 p F q l0)
    (hR : ∀ h' s', At h0 h' (rdr p ty s' (mInt bad l least most).1 :: F) → RdF q l0 s' (mInt bad l least most).2.1 → R (mInt bad l least most).2.2 h') : C_word_Reader_Int (some ⟨p, 0, none⟩) least most h R := by
  refine A_word_Reader_Int ?_
  unfold S_word_Reader_Int
  refine word_part_ok H hs hq 8 rfl (fun hf h1 H => ?_) fun hb hle s1 s2 h1 H r2 _ rd hn => ?_
  · have hm : mInt bad l least most = (true, [], 0) := by unfold mInt; rw [if_pos (hf)]
    rw [hm] at hR
    refine loop2 (s1 := .one (.int .u64)) (s2 := .one (.int .i64)) (fun (u x : Int) h2 => u = 0 ∧ x = 0 ∧ h2 = h1) (fun _ _ _ => 0) ⟨rfl, rfl, rfl⟩ fun _ (u : Int) (x : Int) h2 hI => ?_
    obtain ⟨rfl, rfl, rfl⟩ := hI
    refine brD (fun hc => absurd hc (by decide)) fun _ => ?_
    exact word_fail_ok H fun h3 H => hR h3 _ H (RdF.nil _ _)
  · have hlen : (l.take 8).length = 8 := by rw [List.length_take]; omega
    have hn8 : s1.n = 8 := hn
    refine loop2 (s1 := .one (.int .u64)) (s2 := .one (.int .i64)) (fun (u x : Int) h2 => ∃ k : Nat, k ≤ 8 ∧ x = k ∧ u = valBE ((l.take 8).take k) ∧ h2 = h1) (fun _ (x : Int) _ => (8 - x).toNat) ⟨0, by decide, rfl, by simp [valBE], rfl⟩ fun _ (u : Int) (x : Int) h2 hI => ?_
    obtain ⟨k, hk, rfl, rfl, rfl⟩ := hI
    refine brD (fun hc => ?_) fun hc => ?_
    · have hk8 : k < (l.take 8).length := by omega
      refine ixB (rd) k rfl hk8 (nneg (by decide) (let_ ?_))
      have hv := valBE8 (l := l.take 8) (k := k) hk
      have hv2 := valBE8 (l := l.take 8) (k := k + 1) (by omega)
      have hb8 := ((l.take 8)[k]).toNat_lt
      have hs := take_snoc (l.take 8) k hk8
      have e1 : bitV .or .u64 (shiftV .shl .u64 (valBE ((l.take 8).take k) : Int) 8) (IntKind.u64.wrap (((l.take 8)[k]).toNat : Int)) = (valBE ((l.take 8).take (k + 1)) : Int) := by
        rw [hs, valBE_snoc] at hv2 ⊢
        exact shl_or_u64 hb8 hv2
      rw [e1, w64 (by omega) (by omega)]
      exact ⟨⟨k + 1, by omega, by omega, rfl, rfl⟩, by omega⟩
    · have hk8 : k = 8 := by omega
      subst hk8
      rw [show (l.take 8).take 8 = l.take 8 by rw [List.take_take]; simp]
      have hns := some_of_rd rd (by omega)
      have hbad : bad = false := hb
      have hm : mInt bad l least most = if least ≤ IntKind.i64.wrap (valBE (l.take 8)) ∧ IntKind.i64.wrap (valBE (l.take 8)) ≤ most then (false, l.drop 8, IntKind.i64.wrap (valBE (l.take 8))) else (true, [], 0) := by
        unfold mInt; rw [if_neg (by rw [hbad]; simp; omega)]
      refine let_ ?_
      rw [hns]
      refine brT ?_
      have fl : ¬ (least ≤ IntKind.i64.wrap (valBE (l.take 8)) ∧ IntKind.i64.wrap (valBE (l.take 8)) ≤ most) → C_word_Reader_fail (some ⟨p, 0, none⟩) h2 fun h3 => R 0 h3 := fun hno => by
        rw [hm, if_neg hno] at hR
        exact word_fail_ok H fun h3 H => hR h3 _ H (RdF.nil _ _)
      refine brD (fun c1 => brD (fun c2 => ?_) fun c2 => fl fun hx => c2 hx.2) fun c1 => fl fun hx => c1 hx.1
      rw [hm, if_pos ⟨c1, c2⟩] at hR
      exact hR _ _ H r2
theorem word_Text_ok {most : Int} {R : ByteArray → Heap → Prop} (H : At h0 h (rdr p ty s bad :: F)) (hs : RdF q l0 s l) (hq : Src h0 p F q l0)
    (hR : ∀ h' s', At h0 h' (rdr p ty s' (mText bad l most).1 :: F) → RdF q l0 s' (mText bad l most).2.1 → R (strB (mText bad l most).2.2) h') : C_word_Reader_Text (some ⟨p, 0, none⟩) most h R := by
  refine A_word_Reader_Text ?_
  unfold S_word_Reader_Text
  refine word_part_ok H hs hq 2 rfl (fun hf h1 H => ?_) fun hb hle s1 s2 h1 H r2 _ rd hn => ?_
  · have hm : mText bad l most = (true, [], []) := by unfold mText; rw [if_pos (hf)]
    rw [hm] at hR
    exact hR h1 _ H (RdF.nil _ _)
  · have h2l : (l.take 2).length = 2 := by rw [List.length_take]; omega
    rw [some_of_rd rd (by omega)]
    refine brF ?_
    refine ixB rd 0 rfl (by omega) (nneg (by decide) (ixB rd 1 rfl (by omega) (let_ ?_)))
    have b0 := ((l.take 2)[0]).toNat_lt
    have b1 := ((l.take 2)[1]).toNat_lt
    have hv : valBE (l.take 2) = ((l.take 2)[0]).toNat * 256 + ((l.take 2)[1]).toNat := by
      have := valBE_take2 (l := l.take 2) (by omega)
      rwa [List.take_take] at this
    have e1 : bitV .or .i64 (shiftV .shl .i64 (IntKind.i64.wrap (((l.take 2)[0]).toNat : Int)) 8) (IntKind.i64.wrap (((l.take 2)[1]).toNat : Int)) = (valBE (l.take 2) : Int) := by
      rw [shl_or_i64 b1 (by omega), hv]
    rw [e1]
    have hbad : bad = false := hb
    have hm : mText bad l most = if most < valBE (l.take 2) then (true, [], [])
        else if (l.drop 2).length < valBE (l.take 2) then (true, [], [])
        else (false, (l.drop 2).drop (valBE (l.take 2)), (l.drop 2).take (valBE (l.take 2))) := by
      unfold mText; rw [if_neg (by rw [hbad]; simp; omega)]
    refine brD (fun c1 => ?_) fun c1 => ?_
    · rw [hm, if_pos (by omega)] at hR
      exact word_fail_ok H fun h3 H => hR h3 _ H (RdF.nil _ _)
    · rw [if_neg (by omega)] at hm
      refine word_part_ok H r2 hq (valBE (l.take 2)) rfl (fun hf h3 H => ?_) fun _ hle3 s3 s4 h3 H r4 _ rd3 _ => ?_
      · have hf' : (l.drop 2).length < valBE (l.take 2) := by
          rcases hf with hf | hf
          · cases hf
          · omega
        rw [hm, if_pos hf'] at hR
        refine toS BT (l := []) (RdS.nil _ _ _ _) ?_
        exact hR h3 _ H (RdF.nil _ _)
      · rw [hm, if_neg (by omega)] at hR
        refine toS BT (l := (l.drop 2).take (valBE (l.take 2))) rd3 ?_
        exact hR h3 _ H r4
theorem word_Bool_ok {R : Bool → Heap → Prop} (H : At h0 h (rdr p ty s bad :: F)) (hs : RdF q l0 s l) (hq : Src h0 p F q l0)
    (hR : ∀ h' s', At h0 h' (rdr p ty s' (mBool bad l).1 :: F) → RdF q l0 s' (mBool bad l).2.1 → R (mBool bad l).2.2 h') : C_word_Reader_Bool (some ⟨p, 0, none⟩) h R := by
  refine A_word_Reader_Bool ?_
  unfold S_word_Reader_Bool
  refine word_part_ok H hs hq 1 rfl (fun hf h1 H => ?_) fun hb hle s1 s2 h1 H r2 _ rd hn => ?_
  · have hm : mBool bad l = (true, [], false) := by unfold mBool; rw [if_pos (hf)]
    rw [hm] at hR
    exact word_fail_ok H fun h3 H => hR h3 _ H (RdF.nil _ _)
  · have h1l : (l.take 1).length = 1 := by rw [List.length_take]; omega
    rw [some_of_rd rd (by omega)]
    refine brF ?_
    have hv : valBE (l.take 1) = ((l.take 1)[0]).toNat := by
      have := valBE_take1 (l := l.take 1) (by omega)
      rwa [List.take_take] at this
    have hbad : bad = false := hb
    have hm : mBool bad l = if 1 < valBE (l.take 1) then (true, [], false) else (false, l.drop 1, valBE (l.take 1) == 1) := by
      unfold mBool; rw [if_neg (by rw [hbad]; rintro (h0 | h0); exact Bool.noConfusion h0; omega)]
    refine ixB rd 0 rfl (by omega) (brD (fun c1 => ?_) fun c1 => ?_)
    · rw [hm, if_pos (by omega)] at hR
      exact word_fail_ok H fun h3 H => hR h3 _ H (RdF.nil _ _)
    · rw [hm, if_neg (by omega)] at hR
      refine ixB rd 0 rfl (by omega) ?_
      have e1 : (((((l.take 1)[0]).toNat : Nat) : Int) == 1) = (valBE (l.take 1) == 1) := by
        rw [hv]; rw [Bool.eq_iff_iff]; simp only [beq_iff_eq]; omega
      rw [e1]
      exact hR _ _ H r2
theorem word_Done_ok {R : Bool → Heap → Prop} (H : At h0 h (rdr p ty s bad :: F)) (hs : RdF q l0 s l) (hR : R (!bad && l.isEmpty) h) : C_word_Reader_Done (some ⟨p, 0, none⟩) h R := by
  refine A_word_Reader_Done ?_
  unfold S_word_Reader_Done
  refine word_Fail_ok H ?_
  cases bad with
  | true => exact hR
  | false =>
    have hlen := hs.n
    refine nn (ldAt0 H 0 rfl s rfl ?_)
    have : (((s.n : Nat) : Int) == 0) = l.isEmpty := by
      rw [hlen, Bool.eq_iff_iff]; simp only [beq_iff_eq, List.isEmpty_iff, List.length_eq_zero_iff.symm]; omega
    rw [this]
    exact hR
end
/-! ## The model -/
def u64 (n : Int) : Nat := (n % 18446744073709551616).toNat
def beN (u k : Nat) : List UInt8 := (List.range k).map fun i => UInt8.ofNat (u / 256 ^ (k - 1 - i))
def be8 (n : Int) : List UInt8 := beN (u64 n) 8
def be2 (k : Nat) : List UInt8 := [UInt8.ofNat (k / 256), UInt8.ofNat k]
def txt (l : List UInt8) : List UInt8 := be2 (min l.length 65535) ++ l.take 65535
def tru (b : Bool) : List UInt8 := [if b then 1 else 0]

theorem u64_lt (n : Int) : u64 n < 18446744073709551616 := by unfold u64; omega
theorem u64_cast (n : Int) : (u64 n : Int) = IntKind.u64.wrap n := by rw [wrU64]; unfold u64; omega
theorem beN_length (u k : Nat) : (beN u k).length = k := by simp [beN]
theorem be8_length (n : Int) : (be8 n).length = 8 := beN_length _ _
theorem beN_succ (u k : Nat) : beN u (k + 1) = beN (u / 256) k ++ [UInt8.ofNat u] := by
  unfold beN
  rw [List.range_succ, List.map_append]
  congr 1
  · apply List.map_congr_left
    intro i hi
    have : i < k := by simpa using hi
    rw [Nat.div_div_eq_div_mul, show k + 1 - 1 - i = (k - 1 - i) + 1 by omega, Nat.pow_succ, Nat.mul_comm]
  · simp
theorem beN_cons (u k : Nat) : beN u (k + 1) = UInt8.ofNat (u / 256 ^ k) :: beN u k := by
  unfold beN
  rw [List.range_succ_eq_map, List.map_cons, List.map_map]
  congr 1
  apply List.map_congr_left
  intro i hi
  simp only [Function.comp]
  congr 3
  omega
theorem valBE_beN : ∀ (k u : Nat), valBE (beN u k) = u % 256 ^ k
  | 0, u => by simp [beN, valBE]; omega
  | k + 1, u => by
    rw [beN_succ, valBE_snoc, valBE_beN k, Nat.pow_succ, UInt8.toNat_ofNat', Nat.mul_comm (256 ^ k) 256, Nat.mod_mul]
    omega
theorem valBE_be8 (n : Int) : valBE (be8 n) = u64 n := by
  unfold be8
  rw [valBE_beN]
  exact Nat.mod_eq_of_lt (by have := u64_lt n; have e : (256 : Nat) ^ 8 = 18446744073709551616 := by decide +kernel
                             rw [e]; exact this)
theorem byte_val (u : Nat) : IntKind.u8.wrap (u : Int) = ((UInt8.ofNat u).toNat : Int) := by
  rw [wrU8, UInt8.toNat_ofNat']; omega
theorem shr_u64 (u i : Nat) (hi : i ≤ 7) : shiftV .shr .u64 (u : Int) ((8 * i : Nat) : Int) = ((u / 256 ^ i : Nat) : Int) := by
  rw [shr_eq .u64 _ _ (by show 8 * i ≤ 64; omega), show (2 : Int) ^ (8 * i) = ((2 ^ (8 * i) : Nat) : Int) by rw [Int.natCast_pow]; rfl, Nat.pow_mul, ← Int.natCast_ediv]

section
variable {h : Heap}
theorem word_IntP {s : Sl} {xs : List UInt8} {n : Int} {R : Sl → Heap → Prop} (ho : Own h 1 s (cB xs)) (hlen : xs.length ≤ 1000000000000)
    (hR : ∀ s' h', Own h' 1 s' (cB (xs ++ be8 n)) → Grw h s h' s' → R s' h') : C_word_Int s n h R := by
  refine A_word_Int ?_
  unfold S_word_Int
  refine loop2 (s1 := .one .sl) (s2 := .one (.int .i64)) (fun (b : Sl) (i : Int) h1 => ∃ k : Nat, k ≤ 8 ∧ i = 7 - (k : Int) ∧ Own h1 1 b (cB (xs ++ (be8 n).take k)) ∧ Grw h s h1 b) (fun _ (i : Int) _ => (i + 1).toNat)
    ⟨0, by decide, rfl, by simpa using ho, Grw.refl _ _⟩ fun _ (b : Sl) (i : Int) h1 hI => ?_
  obtain ⟨k, hk, rfl, hb, hg⟩ := hI
  have hbn : b.n = xs.length + k := by
    have := hb.1
    rw [cB_length, List.length_append, List.length_take, be8_length] at this
    omega
  refine brD (fun hc => ?_) fun hc => ?_
  · have e1 : IntKind.u64.wrap (IntKind.i64.wrap (8 * (7 - (k : Int)))) = ((8 * (7 - k) : Nat) : Int) := by
      rw [w64 (by omega) (by omega), wu64 (by omega) (by omega)]; omega
    rw [e1, ← u64_cast, shr_u64 _ _ (by omega), byte_val]
    refine nneg (by omega) (alloc (cs := cB [UInt8.ofNat (u64 n / 256 ^ (7 - k))]) fun h2 hb2 he2 hz2 => ?_)
    have hx : RdS h2 1 ⟨some ⟨h1.size, 0, none⟩, 1, 1⟩ (cB [UInt8.ofNat (u64 n / 256 ^ (7 - k))]) := (Own.full hb2 (sz := 1) (n := 1) (by rfl) (by decide)).rd
    refine app TB (hb.ext' he2) hx cB_one (by show (b.n + 1) * 1 ≤ _; omega) (by show b.n + 1 ≤ _; omega) fun s3 h3 ho3 hn3 hu3 hbl3 => let_ ?_
    have hk8 : k < (be8 n).length := by rw [be8_length]; omega
    have hget : (be8 n)[k] = UInt8.ofNat (u64 n / 256 ^ (7 - k)) := by simp [be8, beN]
    rw [w64 (by omega) (by omega)]
    refine ⟨⟨k + 1, by omega, by omega, ?_, hg.trans ((Grw.of_ext b he2).trans ⟨hu3, hbl3⟩)⟩, by omega⟩
    rw [take_snoc _ _ hk8, hget, ← List.append_assoc, cB_append]
    exact ho3
  · have : k = 8 := by omega
    subst this
    refine hR b h1 ?_ hg
    rwa [List.take_of_length_le (by rw [be8_length]; omega)] at hb

theorem be2_cells (k : Nat) : [Value.int .u8 (IntKind.u8.wrap (shiftV .shr .i64 (k : Int) 8)), Value.int .u8 (IntKind.u8.wrap (k : Int))] = cB (be2 k) := by
  rw [shr8_i64, show ((k : Int) / 256) = ((k / 256 : Nat) : Int) by omega, byte_val, byte_val]
  rfl

theorem word_TextP {s : Sl} {xs : List UInt8} {t : ByteArray} {R : Sl → Heap → Prop} (ho : Own h 1 s (cB xs)) (hlen : xs.length ≤ 1000000000000)
    (hR : ∀ s' h', Own h' 1 s' (cB (xs ++ txt t.data.toList)) → Grw h s h' s' → R s' h') : C_word_Text s t h R := by
  refine A_word_Text ?_
  unfold S_word_Text
  have hsz : t.data.toList.length = t.size := rfl
  have e0 : (if 65535 < (t.size : Int) then 65535 else (t.size : Int)) = ((min t.size 65535 : Nat) : Int) := by split <;> omega
  have hbn : s.n = xs.length := by have := ho.1; rw [cB_length] at this; omega
  refine let_ (nneg (by decide) ?_)
  rw [e0]
  have hc := be2_cells (min t.size 65535)
  rw [congrArg List.toArray hc]
  refine alloc (cs := cB (be2 (min t.size 65535))) fun h2 hb2 he2 hz2 => ?_
  have hx : RdS h2 1 ⟨some ⟨h.size, 0, none⟩, 2, 2⟩ (cB (be2 (min t.size 65535))) := (Own.full hb2 (sz := 1) (n := 2) (by rfl) (by decide)).rd
  refine app TB (ho.ext' he2) hx cB_one (by show (s.n + 2) * 1 ≤ _; omega) (by show s.n + 2 ≤ _; omega) fun s3 h3 ho3 hn3 hu3 hbl3 => ?_
  refine cutS TXT 0 (min t.size 65535) lo0 (hii rfl) (by omega) (by omega) ?_
  have hex : t.extract 0 (min t.size 65535) = strB (t.data.toList.take 65535) := by
    conv => lhs; rw [← strB_of t]
    rw [extract_strB]
    simp only [List.drop_zero, Nat.sub_zero, hsz, strB_size]
    congr 1
    rw [List.take_eq_take_iff, hsz]; omega
  rw [hex]
  have hl2 : (t.data.toList.take 65535).length ≤ 65535 := by rw [List.length_take]; omega
  have hn3' : s3.n = s.n + 2 := hn3
  refine opT_app TB ho3 (SrcH.str TXT _) (by rw [strB_size]; omega) (by rw [strB_size]; omega) fun s4 h4 ho4 hn4 hu4 hbl4 => ?_
  refine hR s4 h4 ?_ ((Grw.of_ext s he2).trans (Grw.trans ⟨hu3, hbl3⟩ ⟨hu4, hbl4⟩))
  rw [byteCells_eq, strB_data] at ho4
  unfold txt
  rw [cB_append, cB_append, ← List.append_assoc]
  exact ho4

theorem word_BoolP {s : Sl} {xs : List UInt8} {b : Bool} {R : Sl → Heap → Prop} (ho : Own h 1 s (cB xs)) (hlen : xs.length ≤ 1000000000000)
    (hR : ∀ s' h', Own h' 1 s' (cB (xs ++ tru b)) → Grw h s h' s' → R s' h') : C_word_Bool s b h R := by
  refine A_word_Bool ?_
  unfold S_word_Bool
  have hbn : s.n = xs.length := by have := ho.1; rw [cB_length] at this; omega
  cases b with
  | true =>
    refine brT (alloc (cs := cB [1]) fun h2 hb2 he2 hz2 => ?_)
    have hx : RdS h2 1 ⟨some ⟨h.size, 0, none⟩, 1, 1⟩ (cB [1]) := (Own.full hb2 (sz := 1) (n := 1) (by rfl) (by decide)).rd
    refine app TB (ho.ext' he2) hx cB_one (by show (s.n + 1) * 1 ≤ _; omega) (by show s.n + 1 ≤ _; omega) fun s3 h3 ho3 hn3 hu3 hbl3 => ?_
    exact hR s3 h3 (by rw [cB_append]; exact ho3) ((Grw.of_ext s he2).trans ⟨hu3, hbl3⟩)
  | false =>
    refine brF (alloc (cs := cB [0]) fun h2 hb2 he2 hz2 => ?_)
    have hx : RdS h2 1 ⟨some ⟨h.size, 0, none⟩, 1, 1⟩ (cB [0]) := (Own.full hb2 (sz := 1) (n := 1) (by rfl) (by decide)).rd
    refine app TB (ho.ext' he2) hx cB_one (by show (s.n + 1) * 1 ≤ _; omega) (by show s.n + 1 ≤ _; omega) fun s3 h3 ho3 hn3 hu3 hbl3 => ?_
    exact hR s3 h3 (by rw [cB_append]; exact ho3) ((Grw.of_ext s he2).trans ⟨hu3, hbl3⟩)

/-! ## The reference -/
theorem ref01_IntP {n : Int} {R : ByteArray → Heap → Prop} (hR : ∀ h', Ext h.size h h' → R (strB (be8 n)) h') : C_ref01_Int n h R := by
  refine A_ref01_Int ?_
  unfold S_ref01_Int
  refine let_ ?_
  refine loop3 (s1 := .one .str) (s2 := .one (.int .u64)) (s3 := .one (.int .i64)) (fun (out : ByteArray) (u : Int) (i : Int) h1 => ∃ k : Nat, k ≤ 8 ∧ i = k ∧ out = strB (beN (u64 n) k) ∧ u = ((u64 n / 256 ^ k : Nat) : Int) ∧ Ext h.size h h1)
    (fun _ _ (i : Int) _ => (8 - i).toNat) ⟨0, by decide, rfl, rfl, by rw [← u64_cast]; simp, Ext.refl _ _⟩ fun _ (out : ByteArray) (u : Int) (i : Int) h1 hI => ?_
  obtain ⟨k, hk, rfl, rfl, rfl, he⟩ := hI
  refine brD (fun hc => ?_) fun hc => ?_
  · have hlt := u64_lt n
    have hq : u64 n / 256 ^ k ≤ u64 n := Nat.div_le_self _ _
    have e1 : IntKind.u8.wrap (divV .rem .u64 ((u64 n / 256 ^ k : Nat) : Int) 256) = ((UInt8.ofNat (u64 n / 256 ^ k)).toNat : Int) := by
      rw [rem_nonneg (Int.natCast_nonneg _), wrU8, UInt8.toNat_ofNat']; omega
    rw [e1]
    refine nz (by decide) (alloc (cs := cB [UInt8.ofNat (u64 n / 256 ^ k)]) fun h2 hb2 he2 hz2 => ?_)
    refine toS BT (l := [UInt8.ofNat (u64 n / 256 ^ k)]) (Own.full hb2 (sz := 1) (n := 1) (by rfl) (by decide)).rd (cat (by simp only [strB_size, beN_length]; simp; omega) ?_)
    have e2 : divV .quo .u64 ((u64 n / 256 ^ k : Nat) : Int) 256 = ((u64 n / 256 ^ (k + 1) : Nat) : Int) := by
      rw [quo_u64 (Int.natCast_nonneg _) (by omega) (by decide), Nat.pow_succ, ← Nat.div_div_eq_div_mul]; rfl
    rw [e2]
    refine nz (by decide) (let_ (let_ ?_))
    rw [w64 (by omega) (by omega), strB_append]
    exact ⟨⟨k + 1, by omega, by omega, by rw [beN_cons]; rfl, rfl, he.trans (he2.mono he.1)⟩, by omega⟩
  · have : k = 8 := by omega
    subst this
    exact hR h1 he
theorem ref01_TextP {t : ByteArray} {R : ByteArray → Heap → Prop} (hlen : t.size ≤ 1000000000000) (hR : ∀ h', Ext h.size h h' → R (strB (txt t.data.toList)) h') : C_ref01_Text t h R := by
  refine A_ref01_Text ?_
  unfold S_ref01_Text
  have hsz : t.data.toList.length = t.size := rfl
  refine join1 (s1 := .one .str) (fun (x : ByteArray) h1 => h1 = h ∧ x = strB (t.data.toList.take 65535)) (fun _ (x : ByteArray) h1 hJ => ?_) ?_
  · obtain ⟨rfl, rfl⟩ := hJ
    have hl : (t.data.toList.take 65535).length = min t.size 65535 := by rw [List.length_take, hsz]; omega
    rw [strB_size, hl]
    have e1 : IntKind.u8.wrap (divV .quo .i64 ((min t.size 65535 : Nat) : Int) 256) = ((UInt8.ofNat (min t.size 65535 / 256)).toNat : Int) := by
      rw [quo_i64 (Int.natCast_nonneg _) (by omega) (by decide), ← byte_val]; rfl
    have e2 : IntKind.u8.wrap (divV .rem .i64 ((min t.size 65535 : Nat) : Int) 256) = ((UInt8.ofNat (min t.size 65535)).toNat : Int) := by
      rw [rem_nonneg (Int.natCast_nonneg _), wrU8, UInt8.toNat_ofNat']; omega
    rw [e1, e2]
    refine nz (by decide) (nz (by decide) (alloc (cs := cB (be2 (min t.size 65535))) fun h2 hb2 he2 hz2 => ?_))
    refine toS BT (l := be2 (min t.size 65535)) (Own.full hb2 (sz := 1) (n := 2) (by rfl) (by decide)).rd (cat (by rw [strB_size, strB_size, hl]; show 2 + _ ≤ _; omega) ?_)
    rw [strB_append]
    exact hR h2 he2
  · refine brD (fun hc => ?_) fun hc => ?_
    · refine cutS TXT 0 65535 lo0 (hii rfl) (by omega) (by omega) ⟨rfl, ?_⟩
      conv => lhs; rw [← strB_of t]
      rw [extract_strB]; rfl
    · refine ⟨rfl, ?_⟩
      rw [List.take_of_length_le (by rw [hsz]; omega), strB_of]
theorem ref01_BoolP {b : Bool} {R : ByteArray → Heap → Prop} (hR : ∀ h', Ext h.size h h' → R (strB (tru b)) h') : C_ref01_Bool b h R := by
  refine A_ref01_Bool ?_
  unfold S_ref01_Bool
  cases b with
  | true =>
    refine brT (alloc (cs := cB [1]) fun h2 hb2 he2 hz2 => ?_)
    exact toS BT (l := [1]) (Own.full hb2 (sz := 1) (n := 1) (by rfl) (by decide)).rd (hR h2 he2)
  | false =>
    refine brF (alloc (cs := cB [0]) fun h2 hb2 he2 hz2 => ?_)
    exact toS BT (l := [0]) (Own.full hb2 (sz := 1) (n := 1) (by rfl) (by decide)).rd (hR h2 he2)
end
end Go.Proofs.Ytnognoiaakiepaa
