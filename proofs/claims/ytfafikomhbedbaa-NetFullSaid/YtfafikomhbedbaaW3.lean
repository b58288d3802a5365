/-
  Layer 1 (word): numbers, texts and truths as bytes, the program's and the reference's.
-/
import Derived.Test.YtfafikomhbedbaaW2
namespace Go.Proofs.Ytfafikomhbedbaa
open Go

/-! ## The model -/
def u64 (n : Int) : Nat := (n % 18446744073709551616).toNat
def beN (u k : Nat) : List UInt8 := (List.range k).map fun i => UInt8.ofNat (u / 256 ^ (k - 1 - i))
def be8 (n : Int) : List UInt8 := beN (u64 n) 8
def be2 (k : Nat) : List UInt8 := [UInt8.ofNat (k / 256), UInt8.ofNat k]
def txt (l : List UInt8) : List UInt8 := be2 (min l.length 65535) ++ l.take 65535
def tru (b : Bool) : List UInt8 := [if b then 1 else 0]

theorem u64_lt (n : Int) : u64 n < 18446744073709551616 := by unfold u64; omega
theorem u64_cast (n : Int) : (u64 n : Int) = IntKind.u64.wrap n := by rw [wrU64]; unfold u64; omega
theorem beN_length (u k : Nat) : (beN u k).length = k := by simp [beN]
theorem be8_length (n : Int) : (be8 n).length = 8 := beN_length _ _
theorem beN_succ (u k : Nat) : beN u (k + 1) = beN (u / 256) k ++ [UInt8.ofNat u] := by
  unfold beN
  rw [List.range_succ, List.map_append]
  congr 1
  · apply List.map_congr_left
    intro i hi
    have : i < k := by simpa using hi
    rw [Nat.div_div_eq_div_mul, show k + 1 - 1 - i = (k - 1 - i) + 1 by omega, Nat.pow_succ, Nat.mul_comm]
  · simp
theorem beN_cons (u k : Nat) : beN u (k + 1) = UInt8.ofNat (u / 256 ^ k) :: beN u k := by
  unfold beN
  rw [List.range_succ_eq_map, List.map_cons, List.map_map]
  congr 1
  apply List.map_congr_left
  intro i hi
  simp only [Function.comp]
  congr 3
  omega
theorem valBE_beN : ∀ (k u : Nat), valBE (beN u k) = u % 256 ^ k
  | 0, u => by simp [beN, valBE]; omega
  | k + 1, u => by
    rw [beN_succ, valBE_snoc, valBE_beN k, Nat.pow_succ, UInt8.toNat_ofNat', Nat.mul_comm (256 ^ k) 256, Nat.mod_mul]
    omega
theorem valBE_be8 (n : Int) : valBE (be8 n) = u64 n := by
  unfold be8
  rw [valBE_beN]
  exact Nat.mod_eq_of_lt (by have := u64_lt n; have e : (256 : Nat) ^ 8 = 18446744073709551616 := by decide +kernel
                             rw [e]; exact this)
theorem byte_val (u : Nat) : IntKind.u8.wrap (u : Int) = ((UInt8.ofNat u).toNat : Int) := by
  rw [wrU8, UInt8.toNat_ofNat']; omega
theorem shr_u64 (u i : Nat) (hi : i ≤ 7) : shiftV .shr .u64 (u : Int) ((8 * i : Nat) : Int) = ((u / 256 ^ i : Nat) : Int) := by
  rw [shr_eq .u64 _ _ (by show 8 * i ≤ 64; omega), show (2 : Int) ^ (8 * i) = ((2 ^ (8 * i) : Nat) : Int) by rw [Int.natCast_pow]; rfl, Nat.pow_mul, ← Int.natCast_ediv]

section
variable {h : Heap}
theorem word_IntP {s : Sl} {xs : List UInt8} {n : Int} {R : Sl → Heap → Prop} (ho : Own h 1 s (cB xs)) (hlen : xs.length ≤ 1000000000000)
    (hR : ∀ s' h', Own h' 1 s' (cB (xs ++ be8 n)) → Grw h s h' s' → R s' h') : C_word_Int s n h R := by
  refine A_word_Int ?_
  unfold S_word_Int
  refine loop2 (s1 := .one .sl) (s2 := .one (.int .i64)) (fun (b : Sl) (i : Int) h1 => ∃ k : Nat, k ≤ 8 ∧ i = 7 - (k : Int) ∧ Own h1 1 b (cB (xs ++ (be8 n).take k)) ∧ Grw h s h1 b) (fun _ (i : Int) _ => (i + 1).toNat)
    ⟨0, by decide, rfl, by simpa using ho, Grw.refl _ _⟩ fun _ (b : Sl) (i : Int) h1 hI => ?_
  obtain ⟨k, hk, rfl, hb, hg⟩ := hI
  have hbn : b.n = xs.length + k := by
    have := hb.1
    rw [cB_length, List.length_append, List.length_take, be8_length] at this
    omega
  refine brD (fun hc => ?_) fun hc => ?_
  · have e1 : IntKind.u64.wrap (IntKind.i64.wrap (8 * (7 - (k : Int)))) = ((8 * (7 - k) : Nat) : Int) := by
      rw [w64 (by omega) (by omega), wu64 (by omega) (by omega)]; omega
    rw [e1, ← u64_cast, shr_u64 _ _ (by omega), byte_val]
    refine nneg (by omega) (alloc (cs := cB [UInt8.ofNat (u64 n / 256 ^ (7 - k))]) fun h2 hb2 he2 hz2 => ?_)
    have hx : RdS h2 1 ⟨some ⟨h1.size, 0, none⟩, 1, 1⟩ (cB [UInt8.ofNat (u64 n / 256 ^ (7 - k))]) := (Own.full hb2 (sz := 1) (n := 1) (by rfl) (by decide)).rd
    refine app TB (hb.ext' he2) hx cB_one (by show (b.n + 1) * 1 ≤ _; omega) (by show b.n + 1 ≤ _; omega) fun s3 h3 ho3 hn3 hu3 hbl3 => let_ ?_
    have hk8 : k < (be8 n).length := by rw [be8_length]; omega
    have hget : (be8 n)[k] = UInt8.ofNat (u64 n / 256 ^ (7 - k)) := by simp [be8, beN]
    rw [w64 (by omega) (by omega)]
    refine ⟨⟨k + 1, by omega, by omega, ?_, hg.trans ((Grw.of_ext b he2).trans ⟨hu3, hbl3⟩)⟩, by omega⟩
    rw [take_snoc _ _ hk8, hget, ← List.append_assoc, cB_append]
    exact ho3
  · have : k = 8 := by omega
    subst this
    refine hR b h1 ?_ hg
    rwa [List.take_of_length_le (by rw [be8_length]; omega)] at hb

theorem be2_cells (k : Nat) : [Value.int .u8 (IntKind.u8.wrap (shiftV .shr .i64 (k : Int) 8)), Value.int .u8 (IntKind.u8.wrap (k : Int))] = cB (be2 k) := by
  rw [shr8_i64, show ((k : Int) / 256) = ((k / 256 : Nat) : Int) by omega, byte_val, byte_val]
  rfl
theorem TXT : Try.prog.underlying 9 = some .string := by kernel_rfl

theorem word_TextP {s : Sl} {xs : List UInt8} {t : ByteArray} {R : Sl → Heap → Prop} (ho : Own h 1 s (cB xs)) (hlen : xs.length ≤ 1000000000000)
    (hR : ∀ s' h', Own h' 1 s' (cB (xs ++ txt t.data.toList)) → Grw h s h' s' → R s' h') : C_word_Text s t h R := by
  refine A_word_Text ?_
  unfold S_word_Text
  have hsz : t.data.toList.length = t.size := rfl
  have e0 : (if 65535 < (t.size : Int) then 65535 else (t.size : Int)) = ((min t.size 65535 : Nat) : Int) := by split <;> omega
  have hbn : s.n = xs.length := by have := ho.1; rw [cB_length] at this; omega
  refine let_ (nneg (by decide) ?_)
  rw [e0]
  have hc := be2_cells (min t.size 65535)
  rw [congrArg List.toArray hc]
  refine alloc (cs := cB (be2 (min t.size 65535))) fun h2 hb2 he2 hz2 => ?_
  have hx : RdS h2 1 ⟨some ⟨h.size, 0, none⟩, 2, 2⟩ (cB (be2 (min t.size 65535))) := (Own.full hb2 (sz := 1) (n := 2) (by rfl) (by decide)).rd
  refine app TB (ho.ext' he2) hx cB_one (by show (s.n + 2) * 1 ≤ _; omega) (by show s.n + 2 ≤ _; omega) fun s3 h3 ho3 hn3 hu3 hbl3 => ?_
  refine cutS TXT 0 (min t.size 65535) lo0 (hii rfl) (by omega) (by omega) ?_
  have hex : t.extract 0 (min t.size 65535) = strB (t.data.toList.take 65535) := by
    conv => lhs; rw [← strB_of t]
    rw [extract_strB]
    simp only [List.drop_zero, Nat.sub_zero, hsz, strB_size]
    congr 1
    rw [List.take_eq_take_iff, hsz]; omega
  rw [hex]
  have hl2 : (t.data.toList.take 65535).length ≤ 65535 := by rw [List.length_take]; omega
  have hn3' : s3.n = s.n + 2 := hn3
  refine opT_app TB ho3 (SrcH.str TXT _) (by rw [strB_size]; omega) (by rw [strB_size]; omega) fun s4 h4 ho4 hn4 hu4 hbl4 => ?_
  refine hR s4 h4 ?_ ((Grw.of_ext s he2).trans (Grw.trans ⟨hu3, hbl3⟩ ⟨hu4, hbl4⟩))
  rw [byteCells_eq, strB_data] at ho4
  unfold txt
  rw [cB_append, cB_append, ← List.append_assoc]
  exact ho4

theorem word_BoolP {s : Sl} {xs : List UInt8} {b : Bool} {R : Sl → Heap → Prop} (ho : Own h 1 s (cB xs)) (hlen : xs.length ≤ 1000000000000)
    (hR : ∀ s' h', Own h' 1 s' (cB (xs ++ tru b)) → Grw h s h' s' → R s' h') : C_word_Bool s b h R := by
  refine A_word_Bool ?_
  unfold S_word_Bool
  have hbn : s.n = xs.length := by have := ho.1; rw [cB_length] at this; omega
  cases b with
  | true =>
    refine brT (alloc (cs := cB [1]) fun h2 hb2 he2 hz2 => ?_)
    have hx : RdS h2 1 ⟨some ⟨h.size, 0, none⟩, 1, 1⟩ (cB [1]) := (Own.full hb2 (sz := 1) (n := 1) (by rfl) (by decide)).rd
    refine app TB (ho.ext' he2) hx cB_one (by show (s.n + 1) * 1 ≤ _; omega) (by show s.n + 1 ≤ _; omega) fun s3 h3 ho3 hn3 hu3 hbl3 => ?_
    exact hR s3 h3 (by rw [cB_append]; exact ho3) ((Grw.of_ext s he2).trans ⟨hu3, hbl3⟩)
  | false =>
    refine brF (alloc (cs := cB [0]) fun h2 hb2 he2 hz2 => ?_)
    have hx : RdS h2 1 ⟨some ⟨h.size, 0, none⟩, 1, 1⟩ (cB [0]) := (Own.full hb2 (sz := 1) (n := 1) (by rfl) (by decide)).rd
    refine app TB (ho.ext' he2) hx cB_one (by show (s.n + 1) * 1 ≤ _; omega) (by show s.n + 1 ≤ _; omega) fun s3 h3 ho3 hn3 hu3 hbl3 => ?_
    exact hR s3 h3 (by rw [cB_append]; exact ho3) ((Grw.of_ext s he2).trans ⟨hu3, hbl3⟩)

/-! ## The reference -/
theorem ref01_IntP {n : Int} {R : ByteArray → Heap → Prop} (hR : ∀ h', Ext h.size h h' → R (strB (be8 n)) h') : C_ref01_Int n h R := by
  refine A_ref01_Int ?_
  unfold S_ref01_Int
  refine let_ ?_
  refine loop3 (s1 := .one .str) (s2 := .one (.int .u64)) (s3 := .one (.int .i64)) (fun (out : ByteArray) (u : Int) (i : Int) h1 => ∃ k : Nat, k ≤ 8 ∧ i = k ∧ out = strB (beN (u64 n) k) ∧ u = ((u64 n / 256 ^ k : Nat) : Int) ∧ Ext h.size h h1)
    (fun _ _ (i : Int) _ => (8 - i).toNat) ⟨0, by decide, rfl, rfl, by rw [← u64_cast]; simp, Ext.refl _ _⟩ fun _ (out : ByteArray) (u : Int) (i : Int) h1 hI => ?_
  obtain ⟨k, hk, rfl, rfl, rfl, he⟩ := hI
  refine brD (fun hc => ?_) fun hc => ?_
  · have hlt := u64_lt n
    have hq : u64 n / 256 ^ k ≤ u64 n := Nat.div_le_self _ _
    have e1 : IntKind.u8.wrap (divV .rem .u64 ((u64 n / 256 ^ k : Nat) : Int) 256) = ((UInt8.ofNat (u64 n / 256 ^ k)).toNat : Int) := by
      rw [rem_nonneg (Int.natCast_nonneg _), wrU8, UInt8.toNat_ofNat']; omega
    rw [e1]
    refine nz (by decide) (alloc (cs := cB [UInt8.ofNat (u64 n / 256 ^ k)]) fun h2 hb2 he2 hz2 => ?_)
    refine toS BT (l := [UInt8.ofNat (u64 n / 256 ^ k)]) (Own.full hb2 (sz := 1) (n := 1) (by rfl) (by decide)).rd (cat (by simp only [strB_size, beN_length]; simp; omega) ?_)
    have e2 : divV .quo .u64 ((u64 n / 256 ^ k : Nat) : Int) 256 = ((u64 n / 256 ^ (k + 1) : Nat) : Int) := by
      rw [quo_u64 (Int.natCast_nonneg _) (by omega) (by decide), Nat.pow_succ, ← Nat.div_div_eq_div_mul]; rfl
    rw [e2]
    refine nz (by decide) (let_ (let_ ?_))
    rw [w64 (by omega) (by omega), strB_append]
    exact ⟨⟨k + 1, by omega, by omega, by rw [beN_cons]; rfl, rfl, he.trans (he2.mono he.1)⟩, by omega⟩
  · have : k = 8 := by omega
    subst this
    exact hR h1 he
theorem ref01_TextP {t : ByteArray} {R : ByteArray → Heap → Prop} (hlen : t.size ≤ 1000000000000) (hR : ∀ h', Ext h.size h h' → R (strB (txt t.data.toList)) h') : C_ref01_Text t h R := by
  refine A_ref01_Text ?_
  unfold S_ref01_Text
  have hsz : t.data.toList.length = t.size := rfl
  refine join1 (s1 := .one .str) (fun (x : ByteArray) h1 => h1 = h ∧ x = strB (t.data.toList.take 65535)) (fun _ (x : ByteArray) h1 hJ => ?_) ?_
  · obtain ⟨rfl, rfl⟩ := hJ
    have hl : (t.data.toList.take 65535).length = min t.size 65535 := by rw [List.length_take, hsz]; omega
    rw [strB_size, hl]
    have e1 : IntKind.u8.wrap (divV .quo .i64 ((min t.size 65535 : Nat) : Int) 256) = ((UInt8.ofNat (min t.size 65535 / 256)).toNat : Int) := by
      rw [quo_i64 (Int.natCast_nonneg _) (by omega) (by decide), ← byte_val]; rfl
    have e2 : IntKind.u8.wrap (divV .rem .i64 ((min t.size 65535 : Nat) : Int) 256) = ((UInt8.ofNat (min t.size 65535)).toNat : Int) := by
      rw [rem_nonneg (Int.natCast_nonneg _), wrU8, UInt8.toNat_ofNat']; omega
    rw [e1, e2]
    refine nz (by decide) (nz (by decide) (alloc (cs := cB (be2 (min t.size 65535))) fun h2 hb2 he2 hz2 => ?_))
    refine toS BT (l := be2 (min t.size 65535)) (Own.full hb2 (sz := 1) (n := 2) (by rfl) (by decide)).rd (cat (by rw [strB_size, strB_size, hl]; show 2 + _ ≤ _; omega) ?_)
    rw [strB_append]
    exact hR h2 he2
  · refine brD (fun hc => ?_) fun hc => ?_
    · refine cutS TXT 0 65535 lo0 (hii rfl) (by omega) (by omega) ⟨rfl, ?_⟩
      conv => lhs; rw [← strB_of t]
      rw [extract_strB]; rfl
    · refine ⟨rfl, ?_⟩
      rw [List.take_of_length_le (by rw [hsz]; omega), strB_of]
theorem ref01_BoolP {b : Bool} {R : ByteArray → Heap → Prop} (hR : ∀ h', Ext h.size h h' → R (strB (tru b)) h') : C_ref01_Bool b h R := by
  refine A_ref01_Bool ?_
  unfold S_ref01_Bool
  cases b with
  | true =>
    refine brT (alloc (cs := cB [1]) fun h2 hb2 he2 hz2 => ?_)
    exact toS BT (l := [1]) (Own.full hb2 (sz := 1) (n := 1) (by rfl) (by decide)).rd (hR h2 he2)
  | false =>
    refine brF (alloc (cs := cB [0]) fun h2 hb2 he2 hz2 => ?_)
    exact toS BT (l := [0]) (Own.full hb2 (sz := 1) (n := 1) (by rfl) (by decide)).rd (hR h2 he2)
end
end Go.Proofs.Ytfafikomhbedbaa
