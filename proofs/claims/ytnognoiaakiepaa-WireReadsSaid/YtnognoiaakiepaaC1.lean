/-
  CRC-32C over plain numbers: bit by bit, byte by byte, by a table; a byte that is another one, or a register that is another one, gives another register.
-/
import Derived.Orders
namespace Go.Proofs.Ytnognoiaakiepaa

def crcP : Nat := 2197175160
def crcBit (r : Nat) : Nat := if r % 2 = 1 then (r / 2) ^^^ crcP else r / 2
def crcN : Nat → Nat → Nat
  | 0, r => r
  | n + 1, r => crcN n (crcBit r)
def crcByte (r : Nat) : Nat := crcN 8 r
def crcReg (r : Nat) (l : List UInt8) : Nat := l.foldl (fun r c => crcByte (r ^^^ c.toNat)) r
def crcOf (l : List UInt8) : Nat := 4294967295 - crcReg 4294967295 l

theorem xor_div2 (a b : Nat) : (a ^^^ b) / 2 = (a / 2) ^^^ (b / 2) := by
  have := Nat.shiftRight_xor_distrib (a := a) (b := b) (i := 1)
  simpa [Nat.shiftRight_eq_div_pow] using this
theorem xor_mod2 (a b : Nat) : (a ^^^ b) % 2 = ((a % 2) ^^^ (b % 2)) := by
  have := Nat.xor_mod_two_pow (a := a) (b := b) (n := 1)
  simpa using this
theorem crcBit_xor (a b : Nat) : crcBit (a ^^^ b) = crcBit a ^^^ crcBit b := by
  unfold crcBit
  rw [xor_div2, xor_mod2]
  rcases Nat.mod_two_eq_zero_or_one a with ha | ha <;> rcases Nat.mod_two_eq_zero_or_one b with hb | hb <;> rw [ha, hb]
  · simp
  · simp [Nat.xor_assoc]
  · simp only [Nat.xor_zero, if_true, Nat.zero_ne_one, if_false]
    rw [Nat.xor_assoc, Nat.xor_assoc, Nat.xor_comm crcP]
  · simp only [Nat.xor_self, if_true, Nat.zero_ne_one, if_false]
    rw [Nat.xor_assoc, ← Nat.xor_assoc crcP, Nat.xor_comm crcP, Nat.xor_assoc, Nat.xor_self, Nat.xor_zero]
theorem crcN_xor : ∀ (n a b : Nat), crcN n (a ^^^ b) = crcN n a ^^^ crcN n b
  | 0, _, _ => rfl
  | n + 1, a, b => by rw [crcN, crcBit_xor, crcN_xor n]; rfl
theorem crcN_shift : ∀ (n a : Nat), crcN n (a * 2 ^ n) = a
  | 0, a => by simp [crcN]
  | n + 1, a => by
    have e : a * 2 ^ (n + 1) = a * 2 ^ n * 2 := by rw [Nat.pow_succ, Nat.mul_assoc]
    rw [crcN, crcBit, e, if_neg (by rw [Nat.mul_mod_left]; decide), Nat.mul_div_cancel _ (by decide), crcN_shift n a]
theorem crcBit_lt {r : Nat} (h : r < 2 ^ 32) : crcBit r < 2 ^ 32 := by
  unfold crcBit
  split
  · exact Nat.xor_lt_two_pow (by omega) (by decide)
  · omega
theorem crcN_lt : ∀ (n r : Nat), r < 2 ^ 32 → crcN n r < 2 ^ 32
  | 0, _, h => h
  | n + 1, _, h => crcN_lt n _ (crcBit_lt h)
theorem crcByte_lt {r : Nat} (h : r < 2 ^ 32) : crcByte r < 2 ^ 32 := crcN_lt 8 r h
theorem byte_lt32 (c : UInt8) : c.toNat < 2 ^ 32 := Nat.lt_of_lt_of_le c.toNat_lt (by decide)
theorem crcReg_lt : ∀ (l : List UInt8) {r : Nat}, r < 2 ^ 32 → crcReg r l < 2 ^ 32
  | [], _, h => h
  | c :: l, r, h => by
    show crcReg (crcByte (r ^^^ c.toNat)) l < _
    exact crcReg_lt l (crcByte_lt (Nat.xor_lt_two_pow h (byte_lt32 c)))
theorem crcReg_append (r : Nat) (a b : List UInt8) : crcReg r (a ++ b) = crcReg (crcReg r a) b := by simp [crcReg]
/-- By a table: the lowest byte is looked up, the rest goes down by eight. -/
theorem crcByte_table (r c : Nat) : crcByte (r ^^^ c) = (r / 256) ^^^ crcByte ((r % 256) ^^^ c) := by
  have e : r = (r / 256 * 2 ^ 8) ^^^ (r % 256) := by
    have h1 := Nat.shiftLeft_add_eq_or_of_lt (a := r / 256) (i := 8) (b := r % 256) (Nat.mod_lt _ (by decide))
    rw [Nat.shiftLeft_eq] at h1
    have h2 : (r / 256 * 2 ^ 8) ||| (r % 256) = (r / 256 * 2 ^ 8) ^^^ (r % 256) := by
      apply Nat.eq_of_testBit_eq
      intro i
      rw [Nat.testBit_or, Nat.testBit_xor]
      by_cases hi : i < 8
      · have : (r / 256 * 2 ^ 8).testBit i = false := by rw [Nat.testBit_mul_two_pow]; simp; omega
        rw [this]; simp
      · have : (r % 256).testBit i = false := Nat.testBit_lt_two_pow (Nat.lt_of_lt_of_le (Nat.mod_lt _ (by decide)) (Nat.le_trans (show 256 ≤ 2 ^ 8 by decide) (Nat.pow_le_pow_right (by decide) (by omega))))
        rw [this]; simp
    rw [← h2, ← h1]; omega
  conv => lhs; rw [e]
  rw [Nat.xor_assoc]
  show crcN 8 _ = _
  rw [crcN_xor, crcN_shift]
  rfl
theorem xor_all {r : Nat} (h : r < 2 ^ 32) : 4294967295 ^^^ r = 4294967295 - r := by
  have h1 := BitVec.xor_allOnes (x := BitVec.ofNat 32 r)
  have h2 := congrArg BitVec.toNat h1
  rw [BitVec.toNat_xor, BitVec.toNat_not, BitVec.toNat_ofNat, Nat.mod_eq_of_lt h, BitVec.toNat_allOnes] at h2
  rw [Nat.xor_comm]
  simpa using h2
/-! ## Another byte, another sum -/
theorem xor_inj {a b c : Nat} (h : a ^^^ c = b ^^^ c) : a = b := by
  have := congrArg (· ^^^ c) h
  simpa [Nat.xor_assoc] using this
theorem xor_inj' {a b c : Nat} (h : c ^^^ a = c ^^^ b) : a = b := xor_inj (by rwa [Nat.xor_comm c, Nat.xor_comm c] at h)
theorem crcBit_inj {a b : Nat} (ha : a < 2 ^ 32) (hb : b < 2 ^ 32) (h : crcBit a = crcBit b) : a = b := by
  have top : ∀ x : Nat, x < 2 ^ 32 → (x / 2).testBit 31 = false := fun x hx => Nat.testBit_lt_two_pow (by omega)
  have hp : crcP.testBit 31 = true := by decide
  have key := congrArg (fun x => Nat.testBit x 31) h
  unfold crcBit at h key
  rcases Nat.mod_two_eq_zero_or_one a with h0 | h0 <;> rcases Nat.mod_two_eq_zero_or_one b with h1 | h1 <;> simp only [h0, h1, if_true, Nat.zero_ne_one, if_false] at h key
  · omega
  · rw [Nat.testBit_xor, top a ha, top b hb, hp] at key; simp at key
  · rw [Nat.testBit_xor, top a ha, top b hb, hp] at key; simp at key
  · have := xor_inj h; omega
theorem crcN_inj : ∀ (n : Nat) {a b : Nat}, a < 2 ^ 32 → b < 2 ^ 32 → crcN n a = crcN n b → a = b
  | 0, _, _, _, _, h => h
  | n + 1, _, _, ha, hb, h => crcBit_inj ha hb (crcN_inj n (crcBit_lt ha) (crcBit_lt hb) h)
theorem crcReg_inj : ∀ (l : List UInt8) {a b : Nat}, a < 2 ^ 32 → b < 2 ^ 32 → crcReg a l = crcReg b l → a = b
  | [], _, _, _, _, h => h
  | c :: l, a, b, ha, hb, h => by
    have hc := byte_lt32 c
    exact xor_inj (crcN_inj 8 (Nat.xor_lt_two_pow ha hc) (Nat.xor_lt_two_pow hb hc) (crcReg_inj l (crcByte_lt (Nat.xor_lt_two_pow ha hc)) (crcByte_lt (Nat.xor_lt_two_pow hb hc)) h))
/-- One byte that is another one. -/
theorem crcReg_turn {r : Nat} (hr : r < 2 ^ 32) (a b : List UInt8) (c d : UInt8) (h : crcReg r (a ++ c :: b) = crcReg r (a ++ d :: b)) : c = d := by
  rw [crcReg_append, crcReg_append] at h
  have h1 := crcReg_lt a hr
  have hc := Nat.xor_lt_two_pow h1 (byte_lt32 c)
  have hd := Nat.xor_lt_two_pow h1 (byte_lt32 d)
  have h2 := crcReg_inj b (crcByte_lt hc) (crcByte_lt hd) h
  have h3 := xor_inj' (crcN_inj 8 hc hd h2)
  exact UInt8.toNat_inj.1 h3
theorem crcOf_turn (a b : List UInt8) (c d : UInt8) (h : crcOf (a ++ c :: b) = crcOf (a ++ d :: b)) : c = d := by
  have hx : ∀ l, crcReg 4294967295 l < 2 ^ 32 := fun l => crcReg_lt l (by decide)
  unfold crcOf at h
  have h1 := hx (a ++ c :: b)
  have h2 := hx (a ++ d :: b)
  exact crcReg_turn (r := 4294967295) (by decide) a b c d (by omega)
theorem crcOf_lt (l : List UInt8) : crcOf l < 4294967296 := by unfold crcOf; omega
/-- A sum's bytes, the lowest first. -/
def le4 (n : Nat) : List UInt8 := [UInt8.ofNat n, UInt8.ofNat (n / 256), UInt8.ofNat (n / 65536), UInt8.ofNat (n / 16777216)]
theorem ofNat_inj {a b : Nat} (h : UInt8.ofNat a = UInt8.ofNat b) : a % 256 = b % 256 := by
  have := congrArg UInt8.toNat h
  simpa using this
theorem le4_inj {a b : Nat} (ha : a < 4294967296) (hb : b < 4294967296) (h : le4 a = le4 b) : a = b := by
  simp only [le4, List.cons.injEq, and_true] at h
  obtain ⟨h0, h1, h2, h3⟩ := h
  have := ofNat_inj h0; have := ofNat_inj h1; have := ofNat_inj h2; have := ofNat_inj h3
  omega
end Go.Proofs.Ytnognoiaakiepaa
