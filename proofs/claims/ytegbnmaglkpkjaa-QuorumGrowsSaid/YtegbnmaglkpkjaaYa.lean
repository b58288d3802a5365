/-
  Layer 36 (quorum), plain: what sets weigh, rules, least quorums.
-/
import Derived.Test.YtegbnmaglkpkjaaRc
namespace Go.Proofs.Ytegbnmaglkpkjaa
open Go

/-- What the first nodes of a set weigh. -/
def csm (f : Nat → Int) (m : Nat) : Nat → Int
  | 0 => 0
  | j + 1 => csm f m j + if m.testBit j = true then f j else 0
/-- What the first nodes weigh. -/
def tot (f : Nat → Int) : Nat → Int
  | 0 => 0
  | j + 1 => tot f j + f j
def one : Nat → Int := fun _ => 1
theorem csm_congr {f : Nat → Int} {m m' : Nat} : ∀ {n : Nat}, (∀ i, i < n → m.testBit i = m'.testBit i) → csm f m n = csm f m' n := by
  intro n
  induction n with
  | zero => intro _; rfl
  | succ n ih =>
    intro h
    show csm f m n + _ = csm f m' n + _
    rw [ih fun i hi => h i (by omega), h n (by omega)]
theorem csm_mod (f : Nat → Int) (m n : Nat) : csm f (m % 2 ^ n) n = csm f m n :=
  csm_congr fun i hi => by rw [Nat.testBit_mod_two_pow]; simp [hi]
theorem csm_mono {f : Nat → Int} {m m' : Nat} : ∀ {n : Nat}, (∀ i, i < n → 0 ≤ f i) → (∀ i, i < n → m.testBit i = true → m'.testBit i = true) → csm f m n ≤ csm f m' n := by
  intro n
  induction n with
  | zero => intro _ _; exact Int.le_refl _
  | succ n ih =>
    intro hf h
    have ih := ih (fun i hi => hf i (by omega)) fun i hi => h i (by omega)
    have h1 := hf n (by omega)
    have h2 := h n (by omega)
    show csm f m n + (if m.testBit n = true then f n else 0) ≤ csm f m' n + (if m'.testBit n = true then f n else 0)
    by_cases h3 : m.testBit n = true
    · rw [if_pos h3, if_pos (h2 h3)]; omega
    · rw [if_neg h3]; split <;> omega
theorem csm_le {f : Nat → Int} {m : Nat} : ∀ {n : Nat}, (∀ i, i < n → 0 ≤ f i) → 0 ≤ csm f m n ∧ csm f m n ≤ tot f n := by
  intro n
  induction n with
  | zero => intro _; exact ⟨Int.le_refl _, Int.le_refl _⟩
  | succ n ih =>
    intro hf
    have ih := ih fun i hi => hf i (by omega)
    have h1 := hf n (by omega)
    show 0 ≤ csm f m n + (if m.testBit n = true then f n else 0) ∧ csm f m n + (if m.testBit n = true then f n else 0) ≤ tot f n + f n
    split <;> omega
theorem csm_disj {f : Nat → Int} {m m' : Nat} : ∀ {n : Nat}, (∀ i, i < n → 0 ≤ f i) → (∀ i, i < n → ¬ (m.testBit i = true ∧ m'.testBit i = true)) → csm f m n + csm f m' n ≤ tot f n := by
  intro n
  induction n with
  | zero => intro _ _; exact Int.le_refl _
  | succ n ih =>
    intro hf h
    have ih := ih (fun i hi => hf i (by omega)) fun i hi => h i (by omega)
    have h1 := hf n (by omega)
    have h2 := h n (by omega)
    show csm f m n + (if m.testBit n = true then f n else 0) + (csm f m' n + (if m'.testBit n = true then f n else 0)) ≤ tot f n + f n
    by_cases h3 : m.testBit n = true
    · rw [if_pos h3, if_neg fun x => h2 ⟨h3, x⟩]; omega
    · rw [if_neg h3]; split <;> omega
theorem csm_full {f : Nat → Int} {m : Nat} : ∀ {n : Nat}, (∀ i, i < n → m.testBit i = true) → csm f m n = tot f n := by
  intro n
  induction n with
  | zero => intro _; rfl
  | succ n ih =>
    intro h
    show csm f m n + (if m.testBit n = true then f n else 0) = tot f n + f n
    rw [ih fun i hi => h i (by omega), if_pos (h n (by omega))]
theorem csm_zero (f : Nat → Int) : ∀ n, csm f 0 n = 0 := by
  intro n
  induction n with
  | zero => rfl
  | succ n ih =>
    show csm f 0 n + (if Nat.testBit 0 n = true then f n else 0) = 0
    rw [ih, if_neg (by rw [Nat.zero_testBit]; decide)]; rfl
theorem tot_one : ∀ n, tot one n = n
  | 0 => rfl
  | n + 1 => by
    unfold tot
    rw [tot_one n]; show (n : Int) + 1 = _; omega
/-! ## Rules -/
inductive QR where
  | w (ws : List Int)
  | j (a b : Nat)
  | g (rows cols : Nat)
  | k (c : Int)
def wt (ws : List Int) : Nat → Int := fun i => ws[i]?.getD 0
def partG (cols m i : Nat) : Nat := m / 2 ^ (i * cols) % 2 ^ cols
def gridB (rows cols m : Nat) : Bool := (List.range rows).all (fun i => decide (partG cols m i ≠ 0)) && (List.range rows).any (fun i => decide (partG cols m i = 2 ^ cols - 1))
def halfB (l m : Nat) : Bool := decide (2 * csm one (m &&& l) 7 > csm one l 7)
def QR.q : QR → Nat → Bool
  | .w ws, m => decide (2 * csm (wt ws) m ws.length > tot (wt ws) ws.length)
  | .j a b, m => halfB a m && halfB b m
  | .g r c, m => gridB r c m
  | .k c, m => decide (csm one m 7 ≥ c)
def QR.ok : QR → Nat → Prop
  | .w ws, n => ws.length = n ∧ n ≤ 7 ∧ (∀ x ∈ ws, 0 ≤ x ∧ x ≤ 64) ∧ 0 < tot (wt ws) n
  | .j a b, n => n ≤ 7 ∧ a < 2 ^ n ∧ b < 2 ^ n ∧ a ≠ 0 ∧ b ≠ 0
  | .g r c, n => 1 ≤ r ∧ 1 ≤ c ∧ n = r * c ∧ n ≤ 7
  | .k c, n => 1 ≤ c ∧ c ≤ n ∧ n ≤ 7
theorem QR.ok7 : ∀ {r : QR} {n : Nat}, r.ok n → n ≤ 7
  | .w _, _, h => h.2.1
  | .j _ _, _, h => h.1
  | .g _ _, _, h => h.2.2.2
  | .k _, _, h => h.2.2
/-- A part of a set. -/
def Sub (a b : Nat) : Prop := ∀ i, a.testBit i = true → b.testBit i = true
theorem wt_nonneg {ws : List Int} (h : ∀ x ∈ ws, 0 ≤ x ∧ x ≤ 64) (i : Nat) : 0 ≤ wt ws i := by
  unfold wt
  by_cases hi : i < ws.length
  · rw [List.getElem?_eq_getElem hi]; exact (h _ (List.getElem_mem hi)).1
  · rw [List.getElem?_eq_none (by omega)]; exact Int.le_refl _
theorem one_nonneg (i : Nat) : 0 ≤ one i := by unfold one; decide
theorem pow128 {n : Nat} (h : n ≤ 7) : 2 ^ n ≤ 128 := Nat.pow_le_pow_right (by decide) h
theorem lt128 {m n : Nat} (hn : n ≤ 7) (h : m < 2 ^ n) : m < 128 := Nat.lt_of_lt_of_le h (pow128 hn)
/-- What all rules have in common. -/
structure QL (q : Nat → Bool) (n : Nat) : Prop where
  n7 : n ≤ 7
  mono : ∀ a b, a < 2 ^ n → b < 2 ^ n → Sub a b → q a = true → q b = true
  top : q (2 ^ n - 1) = true
  bot : q 0 = false
theorem halfB_mono {l a b : Nat} (h : Sub a b) (ha : halfB l a = true) : halfB l b = true := by
  unfold halfB at *
  have ha := of_decide_eq_true ha
  have := csm_mono (f := one) (m := a &&& l) (m' := b &&& l) (n := 7) (fun i _ => one_nonneg i) fun i _ hi => by
    rw [Nat.testBit_and, Bool.and_eq_true] at hi ⊢
    exact ⟨h i hi.1, hi.2⟩
  exact decide_eq_true (by omega)
theorem halfB_meet {l a b : Nat} (ha : halfB l a = true) (hb : halfB l b = true) : a &&& b ≠ 0 := by
  intro h0
  unfold halfB at *
  have ha := of_decide_eq_true ha
  have hb := of_decide_eq_true hb
  have h1 : ∀ i, ¬ (a.testBit i = true ∧ b.testBit i = true) := fun i x => by
    have := Nat.testBit_and a b i
    rw [h0, Nat.zero_testBit, x.1, x.2] at this
    cases this
  have : ∀ n, csm one (a &&& l) n + csm one (b &&& l) n ≤ csm one l n := fun n => by
    induction n with
    | zero => exact Int.le_refl _
    | succ n ih =>
      unfold csm
      have := h1 n
      simp only [Nat.testBit_and, one]
      cases ha : a.testBit n <;> cases hb : b.testBit n <;> cases hl : l.testBit n <;> simp_all <;> omega
  have := this 7
  omega
theorem bit_lt {m n i : Nat} (h : m < 2 ^ n) (hi : m.testBit i = true) : i < n := by
  rcases Nat.lt_or_ge i n with h1 | h1
  · exact h1
  · rw [Nat.testBit_lt_two_pow (Nat.lt_of_lt_of_le h (Nat.pow_le_pow_right (by decide) h1))] at hi; cases hi
theorem bits_top {n i : Nat} (hi : i < n) : (2 ^ n - 1).testBit i = true := by rw [Nat.testBit_two_pow_sub_one]; exact decide_eq_true hi
theorem halfB_top {l n : Nat} (hl : l < 2 ^ n) (h0 : csm one l 7 > 0) : halfB l (2 ^ n - 1) = true := by
  unfold halfB
  have : (2 ^ n - 1) &&& l = l := by
    refine Nat.eq_of_testBit_eq fun i => ?_
    rw [Nat.testBit_and]
    cases h : l.testBit i with
    | false => rw [Bool.and_false]
    | true => rw [bits_top (bit_lt hl h)]; rfl
  rw [this]
  exact decide_eq_true (by omega)
theorem halfB_bot {l : Nat} (h0 : csm one l 7 > 0) : halfB l 0 = false := by
  unfold halfB
  rw [Nat.zero_and, csm_zero]
  exact decide_eq_false (by omega)
theorem pop_pos : ∀ l : Fin 128, l.val ≠ 0 → csm one l.val 7 > 0 := by decide +kernel
theorem grid_mono : ∀ r : Fin 3, ∀ c : Fin 4, 0 < r.val → 0 < c.val → ∀ a : Fin (2 ^ (r.val * c.val)), ∀ b : Fin (2 ^ (r.val * c.val)), a.val &&& b.val = a.val → gridB r.val c.val a.val = true → gridB r.val c.val b.val = true := by decide +kernel
theorem grid_meet : ∀ r : Fin 3, ∀ c : Fin 4, 0 < r.val → 0 < c.val → ∀ a : Fin (2 ^ (r.val * c.val)), ∀ b : Fin (2 ^ (r.val * c.val)), gridB r.val c.val a.val = true → gridB r.val c.val b.val = true → a.val &&& b.val ≠ 0 := by decide +kernel
theorem grid_ends : ∀ r : Fin 3, ∀ c : Fin 4, 0 < r.val → 0 < c.val → gridB r.val c.val (2 ^ (r.val * c.val) - 1) = true ∧ gridB r.val c.val 0 = false := by decide +kernel
theorem Sub.and {a b : Nat} (h : Sub a b) : a &&& b = a := by
  refine Nat.eq_of_testBit_eq fun i => ?_
  rw [Nat.testBit_and]
  cases ha : a.testBit i with
  | false => rfl
  | true => rw [h i ha]; rfl
theorem Sub.of_and {a b : Nat} (h : a &&& b = a) : Sub a b := fun i hi => by
  have := Nat.testBit_and a b i
  rw [h, hi] at this
  rw [Bool.true_and] at this
  exact this.symm
/-- The rules of the laws on meeting and growing. -/
def QR.small : QR → Prop
  | .g r c => r ≤ 2 ∧ c ≤ 3
  | _ => True
theorem QR.ql : ∀ {r : QR} {n : Nat}, r.ok n → r.small → QL r.q n
  | .w ws, n, ⟨h1, h2, h3, h4⟩, _ => by
    subst h1
    have hf : ∀ i, i < ws.length → 0 ≤ wt ws i := fun i _ => wt_nonneg h3 i
    refine ⟨h2, fun a b _ _ hs ha => ?_, ?_, ?_⟩
    · have ha := of_decide_eq_true ha
      have := csm_mono hf fun i _ => hs i
      exact decide_eq_true (by omega)
    · refine decide_eq_true ?_
      rw [csm_full fun i hi => bits_top hi]
      omega
    · refine decide_eq_false ?_
      rw [csm_zero]
      omega
  | .j a b, n, ⟨h1, h2, h3, h4, h5⟩, _ => by
    have p1 := pop_pos ⟨a, lt128 h1 h2⟩ h4
    have p2 := pop_pos ⟨b, lt128 h1 h3⟩ h5
    refine ⟨h1, fun x y _ _ hs hx => ?_, ?_, ?_⟩
    · have hx := Bool.and_eq_true_iff.1 hx
      exact Bool.and_eq_true_iff.2 ⟨halfB_mono hs hx.1, halfB_mono hs hx.2⟩
    · exact Bool.and_eq_true_iff.2 ⟨halfB_top h2 p1, halfB_top h3 p2⟩
    · show (halfB a 0 && halfB b 0) = false
      rw [halfB_bot p1]; rfl
  | .g r c, n, ⟨h1, h2, h3, h4⟩, ⟨h5, h6⟩ => by
    subst h3
    have e := grid_ends ⟨r, by omega⟩ ⟨c, by omega⟩ h1 h2
    exact ⟨h4, fun a b ha hb hs hq => grid_mono ⟨r, by omega⟩ ⟨c, by omega⟩ h1 h2 ⟨a, ha⟩ ⟨b, hb⟩ hs.and hq, e.1, e.2⟩
  | .k c, n, ⟨h1, h2, h3⟩, _ => by
    refine ⟨h3, fun a b _ _ hs ha => ?_, ?_, ?_⟩
    · have ha := of_decide_eq_true ha
      have := csm_mono (f := one) (m := a) (m' := b) (n := 7) (fun i _ => one_nonneg i) fun i _ => hs i
      exact decide_eq_true (by omega)
    · have hp : ∀ n : Fin 8, csm one (2 ^ n.val - 1) 7 = n.val := by decide +kernel
      refine decide_eq_true ?_
      have := hp ⟨n, by omega⟩
      simp only at this
      rw [this]; omega
    · refine decide_eq_false ?_
      rw [csm_zero]
      omega
theorem QR.meet : ∀ {r : QR} {n : Nat}, r.ok n → r.small → (∀ k, r = .k k → 2 * k > n) → ∀ a b, a < 2 ^ n → b < 2 ^ n → r.q a = true → r.q b = true → a &&& b ≠ 0
  | .w ws, n, ⟨h1, h2, h3, h4⟩, _, _, a, b, _, _, ha, hb => by
    subst h1
    intro h0
    have ha := of_decide_eq_true ha
    have hb := of_decide_eq_true hb
    have := csm_disj (f := wt ws) (m := a) (m' := b) (n := ws.length) (fun i _ => wt_nonneg h3 i) fun i _ x => by
      have := Nat.testBit_and a b i
      rw [h0, Nat.zero_testBit, x.1, x.2] at this
      cases this
    omega
  | .j x y, n, _, _, _, a, b, _, _, ha, hb => halfB_meet (Bool.and_eq_true_iff.1 ha).1 (Bool.and_eq_true_iff.1 hb).1
  | .g r c, n, ⟨h1, h2, h3, h4⟩, ⟨h5, h6⟩, _, a, b, ha, hb, qa, qb => by
    subst h3
    exact grid_meet ⟨r, by omega⟩ ⟨c, by omega⟩ h1 h2 ⟨a, ha⟩ ⟨b, hb⟩ qa qb
  | .k c, n, ⟨h1, h2, h3⟩, _, hk, a, b, la, lb, ha, hb => by
    intro h0
    have hk := hk c rfl
    have ha := of_decide_eq_true ha
    have hb := of_decide_eq_true hb
    have e : ∀ {m : Nat}, m < 2 ^ n → csm one m 7 = csm one m n := fun {m} hm => by
      have : ∀ n : Fin 8, ∀ m : Fin 128, m.val < 2 ^ n.val → csm one m.val 7 = csm one m.val n.val := by decide +kernel
      exact this ⟨n, by omega⟩ ⟨m, lt128 h3 hm⟩ hm
    rw [e la] at ha
    rw [e lb] at hb
    have := csm_disj (f := one) (m := a) (m' := b) (n := n) (fun i _ => one_nonneg i) fun i _ x => by
      have := Nat.testBit_and a b i
      rw [h0, Nat.zero_testBit, x.1, x.2] at this
      cases this
    rw [tot_one] at this
    omega
/-! ## Least quorums -/
def leastB (q : Nat → Bool) (n m : Nat) : Bool := q m && (List.range n).all fun i => !m.testBit i || !q (m - 2 ^ i)
def leastL (q : Nat → Bool) (n : Nat) : List Nat := (List.range (2 ^ n)).filter (leastB q n)
theorem mem_least {q : Nat → Bool} {n m : Nat} : m ∈ leastL q n ↔ m < 2 ^ n ∧ leastB q n m = true := by unfold leastL; rw [List.mem_filter, List.mem_range]
theorem sub_pow {m i : Nat} (h : m.testBit i = true) : 2 ^ i ≤ m := by
  rcases Nat.lt_or_ge m (2 ^ i) with h1 | h1
  · rw [Nat.testBit_lt_two_pow h1] at h; cases h
  · exact h1
theorem sub_bits : ∀ m : Fin 128, ∀ i : Fin 7, m.val.testBit i.val = true → (m.val - 2 ^ i.val) &&& m.val = m.val - 2 ^ i.val := by decide +kernel
theorem least_in {q : Nat → Bool} {n : Nat} (h7 : n ≤ 7) : ∀ (f m : Nat), m < f → m < 2 ^ n → q m = true → ∃ z ∈ leastL q n, Sub z m
  | f + 1, m, hf, hm, hq => by
    by_cases h : (List.range n).all (fun i => !m.testBit i || !q (m - 2 ^ i)) = true
    · exact ⟨m, mem_least.2 ⟨hm, by unfold leastB; rw [hq, h]; rfl⟩, fun _ h => h⟩
    · have h' : ∃ i, i < n ∧ m.testBit i = true ∧ q (m - 2 ^ i) = true := by
        false_or_by_contra
        rename_i hno
        refine h (List.all_eq_true.2 fun i hi => ?_)
        rw [List.mem_range] at hi
        cases hb : m.testBit i with
        | false => rfl
        | true =>
          cases hq2 : q (m - 2 ^ i) with
          | false => rfl
          | true => exact absurd ⟨i, hi, hb, hq2⟩ hno
      obtain ⟨i, hi, hb, hq2⟩ := h'
      have h1 := sub_pow hb
      have h2 := Nat.two_pow_pos i
      obtain ⟨z, hz, hs⟩ := least_in h7 f (m - 2 ^ i) (by omega) (by omega) hq2
      have hs2 : Sub (m - 2 ^ i) m := Sub.of_and (sub_bits ⟨m, lt128 h7 hm⟩ ⟨i, by omega⟩ hb)
      exact ⟨z, hz, fun j hj => hs2 j (hs j hj)⟩
def meetsB (q q' : Nat → Bool) (n : Nat) : Bool := (leastL q n).all fun a => (leastL q' n).all fun b => decide (a &&& b ≠ 0)
theorem meets_of {q q' : Nat → Bool} {n : Nat} (h : ∀ a b, a < 2 ^ n → b < 2 ^ n → q a = true → q' b = true → a &&& b ≠ 0) : meetsB q q' n = true := by
  unfold meetsB
  refine List.all_eq_true.2 fun a ha => List.all_eq_true.2 fun b hb => decide_eq_true ?_
  rw [mem_least] at ha hb
  unfold leastB at ha hb
  exact h a b ha.1 hb.1 (Bool.and_eq_true_iff.1 ha.2).1 (Bool.and_eq_true_iff.1 hb.2).1
/-- How many may be down: the least of those that mayn't, of the first sets. -/
def tolF (q : Nat → Bool) (n : Nat) : Nat → Int
  | 0 => n
  | m + 1 => if q (2 ^ n - 1 - m) = true then tolF q n m else min (tolF q n m) (csm one m 7)
theorem meets_at : ∀ c : Fin 8, ∀ i : Fin 8, ∀ j : Fin 8, 0 < i.val → 0 < j.val → i.val ≤ c.val → j.val ≤ c.val → meetsB (QR.q (.k i.val)) (QR.q (.k j.val)) c.val = decide (i.val + j.val > c.val) := by decide +kernel
end Go.Proofs.Ytegbnmaglkpkjaa
