/-
  Layer 36 (quorum): bits of sets.
-/
import Derived.Test.YtegbnmaglkpkjaaYa
import Derived.Test.YtegbnmaglkpkjaaSY
namespace Go.Proofs.Ytegbnmaglkpkjaa
open Go

abbrev U64 : Nat := 18446744073709551616
theorem and_u64' {a b : Nat} (ha : a < 18446744073709551616) (hb : b < 18446744073709551616) : bitV .and .u64 a b = ((a &&& b : Nat) : Int) := by
  have hx : a &&& b < 18446744073709551616 := by rw [lit64] at hb ⊢; exact Nat.and_lt_two_pow _ hb
  simp only [bitV]
  rw [BitVec.toNat_and, ofInt_nat _ a (by show a < 2 ^ 64; rw [← lit64]; exact ha), ofInt_nat _ b (by show b < 2 ^ 64; rw [← lit64]; exact hb), wu64 (by omega) (by omega)]
theorem and_all {x n : Nat} : x &&& (2 ^ n - 1) = x % 2 ^ n := Nat.and_two_pow_sub_one_eq_mod x n
theorem fin8 {P : Nat → Prop} (h : ∀ n : Fin 8, P n.val) {n : Nat} (hn : n ≤ 7) : P n := h ⟨n, by omega⟩
theorem fin128 {P : Nat → Prop} (h : ∀ n : Fin 128, P n.val) {n : Nat} (hn : n < 128) : P n := h ⟨n, hn⟩
theorem all_eq : ∀ n : Fin 8, IntKind.u64.wrap (shiftV .shl .u64 1 (IntKind.u64.wrap ((n.val : Nat) : Int)) - 1) = ((2 ^ n.val - 1 : Nat) : Int) := by decide +kernel
theorem allP_eq : ∀ n : Fin 8, IntKind.u64.wrap (((2 ^ n.val - 1 : Nat) : Int) + 1) = ((2 ^ n.val : Nat) : Int) := by decide +kernel
theorem and_mod {x n : Nat} (hx : x < 18446744073709551616) (hn : n ≤ 7) : bitV .and .u64 (x : Int) ((2 ^ n - 1 : Nat) : Int) = ((x % 2 ^ n : Nat) : Int) := by
  have := pow128 hn
  rw [and_u64' hx (by omega), and_all]
theorem bit_is : ∀ (b : Fin 128) (i : Fin 8), (bitV .and .u64 (shiftV .shr .u64 ((b.val : Nat) : Int) (IntKind.u64.wrap ((i.val : Nat) : Int))) 1 == 1) = b.val.testBit i.val := by decide +kernel
theorem bit_off : ∀ (b : Fin 128) (i : Fin 7), b.val.testBit i.val = true → bitV .andNot .u64 ((b.val : Nat) : Int) (shiftV .shl .u64 1 (IntKind.u64.wrap ((i.val : Nat) : Int))) = ((b.val - 2 ^ i.val : Nat) : Int) := by decide +kernel
theorem and_sets : ∀ a b : Fin 128, bitV .and .u64 ((a.val : Nat) : Int) ((b.val : Nat) : Int) = ((a.val &&& b.val : Nat) : Int) := by decide +kernel
theorem not_all : ∀ (n : Fin 8) (x : Fin 128), x.val < 2 ^ n.val → bitV .andNot .u64 ((2 ^ n.val - 1 : Nat) : Int) ((x.val : Nat) : Int) = ((2 ^ n.val - 1 - x.val : Nat) : Int) := by decide +kernel
theorem pop_all7 : ∀ x : Fin 128,
    let x1 := IntKind.u64.wrap ((bitV .and .u64 (shiftV .shr .u64 ((x.val : Nat) : Int) 1) 6148914691236517205) + (bitV .and .u64 ((x.val : Nat) : Int) 6148914691236517205))
    let x2 := IntKind.u64.wrap ((bitV .and .u64 (shiftV .shr .u64 x1 2) 3689348814741910323) + (bitV .and .u64 x1 3689348814741910323))
    let x3 := bitV .and .u64 (IntKind.u64.wrap ((shiftV .shr .u64 x2 4) + x2)) 1085102592571150095
    let x4 := IntKind.u64.wrap (x3 + (shiftV .shr .u64 x3 8))
    let x5 := IntKind.u64.wrap (x4 + (shiftV .shr .u64 x4 16))
    let x6 := IntKind.u64.wrap (x5 + (shiftV .shr .u64 x5 32))
    bitV .and .i64 (IntKind.i64.wrap x6) 127 = csm one x.val 7 := by decide +kernel
theorem pop64_ok {x : Nat} (hx : x < 128) {h : Heap} {R : Int → Heap → Prop} (hR : R (csm one x 7) h) : C_math_bits_OnesCount64 (x : Int) h R := by
  have k := pop_all7 ⟨x, hx⟩
  refine A_math_bits_OnesCount64 ?_
  unfold S_math_bits_OnesCount64
  refine nneg (by decide) (let_ (nneg (by decide) (let_ (nneg (by decide) (let_ (nneg (by decide) (let_ (nneg (by decide) (let_ (nneg (by decide) (let_ ?_)))))))))))
  simp only at k
  rw [k]
  exact hR
theorem pop_ok {x : Nat} (hx : x < 128) {h : Heap} {R : Int → Heap → Prop} (hR : R (csm one x 7) h) : C_math_bits_OnesCount (x : Int) h R := by
  refine A_math_bits_OnesCount ?_
  unfold S_math_bits_OnesCount
  exact pop64_ok hx hR
theorem csm_one_mod {x n : Nat} (hn : n ≤ 7) : csm one (x % 2 ^ n) 7 = csm one x n := by
  have e : ∀ n : Fin 8, ∀ m : Fin 128, m.val < 2 ^ n.val → csm one m.val 7 = csm one m.val n.val := by decide +kernel
  have h1 : x % 2 ^ n < 2 ^ n := Nat.mod_lt _ (Nat.two_pow_pos n)
  have := e ⟨n, by omega⟩ ⟨x % 2 ^ n, lt128 hn h1⟩ h1
  simp only at this
  rw [this, csm_mod]
theorem csm_le7 : ∀ x : Fin 128, 0 ≤ csm one x.val 7 ∧ csm one x.val 7 ≤ 7 := by decide +kernel
end Go.Proofs.Ytegbnmaglkpkjaa
