/-
  Numbers: wraps, shifts, divisions, bits; bytes as a number, the highest first.
-/
import Derived.Test.YtegbnmaglkpkjaaRb
import Derived.Laws.BitsLemmas
namespace Go.Proofs.Ytegbnmaglkpkjaa
open Go

theorem wrU8 (n : Int) : IntKind.u8.wrap n = n % 256 := by simp [IntKind.wrap, IntKind.bits, IntKind.signed]
theorem wrU16 (n : Int) : IntKind.u16.wrap n = n % 65536 := by simp [IntKind.wrap, IntKind.bits, IntKind.signed]
theorem wrU32 (n : Int) : IntKind.u32.wrap n = n % 4294967296 := by simp [IntKind.wrap, IntKind.bits, IntKind.signed]
theorem wrU64 (n : Int) : IntKind.u64.wrap n = n % 18446744073709551616 := by simp [IntKind.wrap, IntKind.bits, IntKind.signed]
theorem wu8 {n : Int} (h0 : 0 ≤ n) (h1 : n < 256) : IntKind.u8.wrap n = n := by rw [wrU8]; omega
theorem wu32 {n : Int} (h0 : 0 ≤ n) (h1 : n < 4294967296) : IntKind.u32.wrap n = n := by rw [wrU32]; omega
theorem wu64 {n : Int} (h0 : 0 ≤ n) (h1 : n < 18446744073709551616) : IntKind.u64.wrap n = n := by rw [wrU64]; omega

theorem shl_eq (k : IntKind) (m : Int) (n : Nat) (hn : n ≤ k.bits) : shiftV .shl k m n = k.wrap (m * 2 ^ n) := by
  simp only [shiftV, Int.toNat_natCast, Nat.min_eq_left hn]
theorem shr_eq (k : IntKind) (m : Int) (n : Nat) (hn : n ≤ k.bits) : shiftV .shr k m n = m / 2 ^ n := by
  simp only [shiftV, Int.toNat_natCast, Nat.min_eq_left hn]
  rw [Int.fdiv_eq_ediv_of_nonneg _ (Int.le_of_lt (Int.pow_pos (by decide)))]
theorem shl8_u64 (m : Int) : shiftV .shl .u64 m 8 = (m * 256) % 18446744073709551616 := by
  have := shl_eq .u64 m 8 (by decide)
  rw [show ((8 : Nat) : Int) = 8 from rfl] at this
  rw [this, wrU64]; rfl
theorem shr8_i64 (m : Int) : shiftV .shr .i64 m 8 = m / 256 := by
  have := shr_eq .i64 m 8 (by decide)
  rw [show ((8 : Nat) : Int) = 8 from rfl] at this
  rw [this]; rfl
theorem shl8_i64 {m : Int} (h0 : 0 ≤ m) (h1 : m < 36028797018963968) : shiftV .shl .i64 m 8 = m * 256 := by
  have := shl_eq .i64 m 8 (by decide)
  rw [show ((8 : Nat) : Int) = 8 from rfl] at this
  rw [this, show (m * 2 ^ 8 : Int) = m * 256 from rfl, w64 (by omega) (by omega)]
theorem quo_u64 {m n : Int} (h0 : 0 ≤ m) (h1 : m < 18446744073709551616) (hn : 0 < n) : divV .quo .u64 m n = m / n := by
  have hle : m / n ≤ m := Int.ediv_le_self _ h0
  have h2 : 0 ≤ m / n := Int.ediv_nonneg h0 (by omega)
  simp only [divV]
  rw [Int.tdiv_eq_ediv_of_nonneg h0, wu64 h2 (by omega)]
theorem rem_nonneg {k : IntKind} {m n : Int} (h0 : 0 ≤ m) : divV .rem k m n = m % n := by
  simp only [divV]
  exact Int.tmod_eq_emod_of_nonneg h0
theorem quo_i64 {m n : Int} (h0 : 0 ≤ m) (h1 : m ≤ 9223372036854775807) (hn : 0 < n) : divV .quo .i64 m n = m / n := by
  have hle : m / n ≤ m := Int.ediv_le_self _ h0
  have h2 : 0 ≤ m / n := Int.ediv_nonneg h0 (by omega)
  simp only [divV]
  rw [Int.tdiv_eq_ediv_of_nonneg h0, w64 (by omega) (by omega)]

theorem ofInt_nat (w a : Nat) (ha : a < 2 ^ w) : (BitVec.ofInt w (a : Int)).toNat = a := by
  rw [BitVec.ofInt_natCast, BitVec.toNat_ofNat]; exact Nat.mod_eq_of_lt ha
theorem or_u64 {a b : Nat} (ha : a < 2 ^ 64) (hb : b < 2 ^ 64) : bitV .or .u64 a b = ((a ||| b : Nat) : Int) := by
  have hx : a ||| b < 2 ^ 64 := Nat.or_lt_two_pow ha hb
  simp only [bitV]
  rw [BitVec.toNat_or, ofInt_nat _ a (by simpa [IntKind.bits] using ha), ofInt_nat _ b (by simpa [IntKind.bits] using hb), wu64 (by omega) (by omega)]
theorem or_i64 {a b : Nat} (ha : a < 2 ^ 63) (hb : b < 2 ^ 63) : bitV .or .i64 a b = ((a ||| b : Nat) : Int) := by
  have hx : a ||| b < 2 ^ 63 := Nat.or_lt_two_pow ha hb
  simp only [bitV]
  rw [BitVec.toNat_or, ofInt_nat _ a (by simp [IntKind.bits]; omega), ofInt_nat _ b (by simp [IntKind.bits]; omega), w64 (by omega) (by omega)]
theorem xor_u8 {a b : Nat} (ha : a < 2 ^ 8) (hb : b < 2 ^ 8) : bitV .xor .u8 a b = ((a ^^^ b : Nat) : Int) := by
  have hx : a ^^^ b < 2 ^ 8 := Nat.xor_lt_two_pow ha hb
  simp only [bitV]
  rw [BitVec.toNat_xor, ofInt_nat _ a (by simpa [IntKind.bits] using ha), ofInt_nat _ b (by simpa [IntKind.bits] using hb), wu8 (by omega) (by omega)]
theorem xor_u32 {a b : Nat} (ha : a < 2 ^ 32) (hb : b < 2 ^ 32) : bitV .xor .u32 a b = ((a ^^^ b : Nat) : Int) := by
  have hx : a ^^^ b < 2 ^ 32 := Nat.xor_lt_two_pow ha hb
  simp only [bitV]
  rw [BitVec.toNat_xor, ofInt_nat _ a (by simpa [IntKind.bits] using ha), ofInt_nat _ b (by simpa [IntKind.bits] using hb), wu32 (by omega) (by omega)]
theorem and_u32 {a b : Nat} (ha : a < 2 ^ 32) (hb : b < 2 ^ 32) : bitV .and .u32 a b = ((a &&& b : Nat) : Int) := by
  have hx : a &&& b < 2 ^ 32 := Nat.and_lt_two_pow _ hb
  simp only [bitV]
  rw [BitVec.toNat_and, ofInt_nat _ a (by simpa [IntKind.bits] using ha), ofInt_nat _ b (by simpa [IntKind.bits] using hb), wu32 (by omega) (by omega)]
theorem or_low {a c : Nat} (hc : c < 256) : (a * 256) ||| c = a * 256 + c := by
  have := Nat.shiftLeft_add_eq_or_of_lt (a := a) (i := 8) (b := c) hc
  rw [Nat.shiftLeft_eq, show (2 : Nat) ^ 8 = 256 from rfl] at this
  omega

theorem lit64 : (18446744073709551616 : Nat) = 2 ^ 64 := by decide +kernel
theorem lit63 : (9223372036854775808 : Nat) = 2 ^ 63 := by decide +kernel
theorem or_u64' {a b : Nat} (ha : a < 18446744073709551616) (hb : b < 18446744073709551616) : bitV .or .u64 a b = ((a ||| b : Nat) : Int) := or_u64 (by rw [← lit64]; exact ha) (by rw [← lit64]; exact hb)
theorem or_i64' {a b : Nat} (ha : a < 9223372036854775808) (hb : b < 9223372036854775808) : bitV .or .i64 a b = ((a ||| b : Nat) : Int) := or_i64 (by rw [← lit63]; exact ha) (by rw [← lit63]; exact hb)
theorem emod64 {n : Int} (h0 : 0 ≤ n) (h1 : n < 18446744073709551616) : n % 18446744073709551616 = n := Int.emod_eq_of_lt h0 h1
set_option maxRecDepth 100000 in
theorem shl_or_u64 {u c : Nat} (hc : c < 256) (hu : u * 256 + c < 18446744073709551616) : bitV .or .u64 (shiftV .shl .u64 (u : Int) 8) (IntKind.u64.wrap (c : Int)) = ((u * 256 + c : Nat) : Int) := by
  have e3 : u * 256 < 18446744073709551616 := by omega
  have e4 : c < 18446744073709551616 := by omega
  have e5 : ((u * 256 : Nat) : Int) = (u : Int) * 256 := by omega
  have e6 : (0 : Int) ≤ (u : Int) * 256 := by omega
  have e7 : (u : Int) * 256 < 18446744073709551616 := by omega
  have e8 : (c : Int) < 18446744073709551616 := by omega
  rw [shl8_u64, wu64 (Int.natCast_nonneg c) e8, emod64 e6 e7, ← e5, or_u64' e3 e4, or_low hc]
theorem shl_or_i64 {u c : Nat} (hc : c < 256) (hu : u < 65536) : bitV .or .i64 (shiftV .shl .i64 (IntKind.i64.wrap (u : Int)) 8) (IntKind.i64.wrap (c : Int)) = ((u * 256 + c : Nat) : Int) := by
  have e : ((u : Int) * 256) = ((u * 256 : Nat) : Int) := by omega
  rw [w64 (by omega) (by omega), w64 (by omega) (by omega), shl8_i64 (by omega) (by omega), e, or_i64' (by omega) (by omega), or_low hc]
/-- Bytes as a number, the highest first. -/
def valBE (l : List UInt8) : Nat := l.foldl (fun u b => u * 256 + b.toNat) 0
theorem valBE_snoc (l : List UInt8) (b : UInt8) : valBE (l ++ [b]) = valBE l * 256 + b.toNat := by simp [valBE]
theorem valBE_lt (l : List UInt8) : valBE l < 256 ^ l.length := by
  have key : ∀ l : List UInt8, ∀ u n, u < 256 ^ n → l.foldl (fun u b => u * 256 + b.toNat) u < 256 ^ (n + l.length) := by
    intro l
    induction l with
    | nil => intro u n h; exact h
    | cons b l ih =>
      intro u n h
      have hb := b.toNat_lt
      have := ih (u * 256 + b.toNat) (n + 1) (by rw [Nat.pow_succ]; omega)
      simp only [List.foldl_cons, List.length_cons]
      rwa [show n + (l.length + 1) = n + 1 + l.length by omega]
  have := key l 0 0 (by simp)
  rwa [Nat.zero_add] at this
theorem take_snoc {α : Type} (l : List α) (k : Nat) (hk : k < l.length) : l.take (k + 1) = l.take k ++ [l[k]] := by
  rw [List.take_succ_eq_append_getElem hk]
end Go.Proofs.Ytegbnmaglkpkjaa
