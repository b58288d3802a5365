/-
  Layer 30 (lease), the plain law: numbers stay small; clocks stay near; two never hold the lease at one time.
-/
import Derived.Test.YtegbnmaglkpkjaaL3
namespace Go.Proofs.Ytegbnmaglkpkjaa

/-! ## Bits -/
theorem shr1 (x y : Nat) : (x &&& y) / 2 = (x / 2) &&& (y / 2) ∧ (x ||| y) / 2 = (x / 2) ||| (y / 2) := by
  have h1 := Nat.shiftRight_and_distrib (a := x) (b := y) (i := 1)
  have h2 := Nat.shiftRight_or_distrib (a := x) (b := y) (i := 1)
  simp only [Nat.shiftRight_eq_div_pow] at h1 h2
  exact ⟨h1, h2⟩
theorem mod1 (x y : Nat) : (x &&& y) % 2 = ((x % 2) &&& (y % 2)) ∧ (x ||| y) % 2 = ((x % 2) ||| (y % 2)) := by
  have h1 := Nat.and_mod_two_pow (a := x) (b := y) (n := 1)
  have h2 := Nat.or_mod_two_pow (a := x) (b := y) (n := 1)
  simp only [Nat.pow_one] at h1 h2
  exact ⟨h1, h2⟩
theorem pop_and_or : ∀ (k x y : Nat), popN k x + popN k y = popN k (x &&& y) + popN k (x ||| y)
  | 0, _, _ => rfl
  | k + 1, x, y => by
    have ih := pop_and_or k (x / 2) (y / 2)
    unfold popN
    rw [(shr1 x y).1, (shr1 x y).2, (mod1 x y).1, (mod1 x y).2]
    have h : x % 2 + y % 2 = ((x % 2) &&& (y % 2)) + ((x % 2) ||| (y % 2)) := by
      rcases Nat.mod_two_eq_zero_or_one x with hx | hx <;> rcases Nat.mod_two_eq_zero_or_one y with hy | hy <;> rw [hx, hy] <;> rfl
    omega
theorem pop_in : ∀ (k n x : Nat), (∀ i, n ≤ i → x.testBit i = false) → popN k x ≤ n
  | 0, _, _, _ => Nat.zero_le _
  | k + 1, 0, x, h => by
    have e : x = 0 := Nat.eq_of_testBit_eq fun i => by rw [h i (Nat.zero_le _), Nat.zero_testBit]
    have := pop_in k 0 0 fun i _ => Nat.zero_testBit i
    subst e
    unfold popN
    simpa using this
  | k + 1, n + 1, x, h => by
    have := pop_in k n (x / 2) fun i hi => by rw [Nat.testBit_div_two]; exact h (i + 1) (by omega)
    have := Nat.mod_lt x (show 0 < 2 by decide)
    unfold popN
    omega
theorem pop_ex : ∀ (k x : Nat), 0 < popN k x → ∃ i, x.testBit i = true
  | 0, _, h => absurd h (Nat.lt_irrefl 0)
  | k + 1, x, h => by
    unfold popN at h
    by_cases h0 : x % 2 = 1
    · exact ⟨0, by rw [Nat.testBit_zero]; simp [h0]⟩
    · obtain ⟨i, hi⟩ := pop_ex k (x / 2) (by omega)
      exact ⟨i + 1, by rwa [Nat.testBit_div_two] at hi⟩
theorem pop_meet {n x y : Nat} (hx : ∀ i, x.testBit i = true → i < n) (hy : ∀ i, y.testBit i = true → i < n) (h1 : n < 2 * popN 7 x) (h2 : n < 2 * popN 7 y) : ∃ j, j < n ∧ x.testBit j = true ∧ y.testBit j = true := by
  have h3 := pop_and_or 7 x y
  have h4 := pop_in 7 n (x ||| y) fun i hi => by
    rw [Nat.testBit_or]
    cases h : x.testBit i with
    | true => have := hx i h; omega
    | false => cases h' : y.testBit i with
      | true => have := hy i h'; omega
      | false => rfl
  obtain ⟨j, hj⟩ := pop_ex 7 (x &&& y) (by omega)
  rw [Nat.testBit_and, Bool.and_eq_true] at hj
  exact ⟨j, hx j hj.1, hj.1, hj.2⟩

/-! ## Steps -/
def nd0 : LNode := ⟨0, 0, 0, 0, 0, -1, 0⟩
def LF.nd (f : LF) (i : Nat) : LNode := (f.l[i]?).getD nd0
theorem nd_get {f : LF} {k : Nat} (hk : k < f.l.length) : f.nd k = f.l[k] := by simp [LF.nd, List.getElem?_eq_getElem hk]
theorem nd_set {f : LF} {k : Nat} (hk : k < f.l.length) (x : LNode) (fl : List LPkt) (i : Nat) : LF.nd ⟨f.len, f.skew, f.l.set k x, fl⟩ i = if i = k then x else f.nd i := by
  unfold LF.nd
  by_cases h : i = k
  · subst h; simp [hk]
  · rw [if_neg h, List.getElem?_set_ne (fun e => h e.symm)]
inductive LStep (f : LF) : LF → Prop where
  | part (fl : List LPkt) (h : ∀ p ∈ fl, p ∈ f.fl) (hl : fl.length ≤ f.fl.length + 1) : LStep f ⟨f.len, f.skew, f.l, fl⟩
  | tick (k : Nat) (hk : k < f.l.length) (h : ∀ j, (hj : j < f.l.length) → j ≠ k → f.l[k].clock + 1 - f.l[j].clock ≤ f.skew) : LStep f { f with l := f.l.set k { f.l[k] with clock := f.l[k].clock + 1 } }
  | ask (k : Nat) (hk : k < f.l.length) : LStep f (askM f k f.l[k])
  | fail (k : Nat) (hk : k < f.l.length) : LStep f (failM f k f.l[k])
  | asked (i : Nat) (hi : i < f.fl.length) (ha : f.fl[i].answer = false) (t : Nat) (ht : t < f.l.length) (hto : f.fl[i].to = t) (h : ¬ (f.l[t].whom ≠ f.fl[i].from_ ∧ f.l[t].clock < f.l[t].until_)) :
      LStep f ⟨f.len, f.skew, f.l.set t { f.l[t] with whom := f.fl[i].from_, until_ := f.l[t].clock + f.len }, (dropM f i).fl ++ [⟨f.fl[i].to, f.fl[i].from_, f.fl[i].round, true⟩]⟩
  | answered (i : Nat) (hi : i < f.fl.length) (ha : f.fl[i].answer = true) (t : Nat) (ht : t < f.l.length) (hto : f.fl[i].to = t) (h : f.fl[i].round = f.l[t].round) (till : Int)
      (htill : till = f.l[t].till ∨ ((f.l.length : Int) < 2 * popN 7 (f.l[t].granted ||| 2 ^ f.fl[i].from_.toNat) ∧ till = f.l[t].began + f.len - 2 * f.skew)) :
      LStep f ⟨f.len, f.skew, f.l.set t { f.l[t] with granted := f.l[t].granted ||| 2 ^ f.fl[i].from_.toNat, till := till }, (dropM f i).fl⟩
theorem drop_mem {f : LF} {i : Nat} : ∀ p ∈ (dropM f i).fl, p ∈ f.fl := fun p hp => by
  rcases List.mem_append.1 hp with hp | hp
  · exact List.mem_of_mem_take hp
  · exact List.mem_of_mem_drop hp
theorem drop_len {f : LF} {i : Nat} (hi : i < f.fl.length) : (dropM f i).fl.length + 1 = f.fl.length := by
  show (f.fl.take i ++ f.fl.drop (i + 1)).length + 1 = _
  rw [List.length_append, List.length_take, List.length_drop]
  omega
theorem LOk.step {N : Int} {f f' : LF} (ho : LOk N f) (hs : LStep f f') (hN : N + 1 ≤ 1000000) : LOk (N + 1) f' := by
  have h7 := ho.n7
  have hfl := ho.fl
  have setnd : ∀ (k : Nat) (x : LNode), (0 ≤ x.clock ∧ x.clock ≤ N + 1 ∧ 0 ≤ x.round ∧ x.round ≤ N + 1 ∧ 0 ≤ x.began ∧ x.began ≤ N + 1 ∧ x.granted < 128) → ∀ y ∈ f.l.set k x, 0 ≤ y.clock ∧ y.clock ≤ N + 1 ∧ 0 ≤ y.round ∧ y.round ≤ N + 1 ∧ 0 ≤ y.began ∧ y.began ≤ N + 1 ∧ y.granted < 128 := fun k x hx y hy => by
    rcases List.mem_or_eq_of_mem_set hy with hy | rfl
    · have := ho.nd y hy; omega
    · exact hx
  have oldnd : ∀ y ∈ f.l, 0 ≤ y.clock ∧ y.clock ≤ N + 1 ∧ 0 ≤ y.round ∧ y.round ≤ N + 1 ∧ 0 ≤ y.began ∧ y.began ≤ N + 1 ∧ y.granted < 128 := fun y hy => by have := ho.nd y hy; omega
  cases hs with
  | part fl h hl => exact ⟨h7, ho.len, ho.skew, oldnd, fun p hp => ho.pk p (h p hp), by show (fl.length : Int) ≤ _; omega, hN⟩
  | tick k hk h =>
    have hx := ho.nd _ (List.getElem_mem hk)
    exact ⟨by show (f.l.set k _).length ≤ 7; rw [List.length_set]; exact h7, ho.len, ho.skew, setnd k _ (by simp only []; omega), fun p hp => by show _ ∧ _ < ((f.l.set k _).length : Int) ∧ _ ∧ _ < ((f.l.set k _).length : Int); rw [List.length_set]; exact ho.pk p hp, by show (f.fl.length : Int) ≤ _; omega, hN⟩
  | ask k hk =>
    have hx := ho.nd _ (List.getElem_mem hk)
    refine ⟨by show (f.l.set k _).length ≤ 7; rw [List.length_set]; exact h7, ho.len, ho.skew, setnd k _ (by simp only []; omega), fun p hp => ?_, ?_, hN⟩
    · show _ ∧ _ < ((f.l.set k _).length : Int) ∧ _ ∧ _ < ((f.l.set k _).length : Int)
      rw [List.length_set]
      rcases List.mem_append.1 hp with hp | hp
      · exact ho.pk p hp
      · obtain ⟨j, hj, rfl⟩ := List.mem_map.1 hp
        have := List.mem_range.1 hj
        simp only []
        omega
    · show ((f.fl ++ _).length : Int) ≤ _
      rw [List.length_append, List.length_map, List.length_range]
      omega
  | fail k hk =>
    have hx := ho.nd _ (List.getElem_mem hk)
    exact ⟨by show (f.l.set k _).length ≤ 7; rw [List.length_set]; exact h7, ho.len, ho.skew, setnd k _ (by simp only []; omega), fun p hp => by show _ ∧ _ < ((f.l.set k _).length : Int) ∧ _ ∧ _ < ((f.l.set k _).length : Int); rw [List.length_set]; exact ho.pk p hp, by show (f.fl.length : Int) ≤ _; omega, hN⟩
  | asked i hi ha t ht hto h =>
    have hx := ho.nd _ (List.getElem_mem ht)
    have hp0 := ho.pk _ (List.getElem_mem hi)
    have hd := drop_len hi
    refine ⟨by show (f.l.set t _).length ≤ 7; rw [List.length_set]; exact h7, ho.len, ho.skew, setnd t _ (by simp only []; omega), fun p hp => ?_, ?_, hN⟩
    · show _ ∧ _ < ((f.l.set t _).length : Int) ∧ _ ∧ _ < ((f.l.set t _).length : Int)
      rw [List.length_set]
      rcases List.mem_append.1 hp with hp | hp
      · exact ho.pk p (drop_mem p hp)
      · simp only [List.mem_singleton] at hp
        subst hp
        simp only []
        omega
    · show (((dropM f i).fl ++ _).length : Int) ≤ _
      rw [List.length_append]
      simp only [List.length_cons, List.length_nil]
      omega
  | answered i hi ha t ht hto h till htill =>
    have hx := ho.nd _ (List.getElem_mem ht)
    have hp0 := ho.pk _ (List.getElem_mem hi)
    have hd := drop_len hi
    obtain ⟨q, hq⟩ : ∃ q : Nat, f.fl[i].from_ = q := ⟨f.fl[i].from_.toNat, by omega⟩
    have hor := (bit_or (p := q) hx.2.2.2.2.2.2 (by omega)).2
    refine ⟨by show (f.l.set t _).length ≤ 7; rw [List.length_set]; exact h7, ho.len, ho.skew, setnd t _ (by simp only [hq, Int.toNat_natCast]; omega), fun p hp => ?_, ?_, hN⟩
    · show _ ∧ _ < ((f.l.set t _).length : Int) ∧ _ ∧ _ < ((f.l.set t _).length : Int)
      rw [List.length_set]
      exact ho.pk p (drop_mem p hp)
    · show ((dropM f i).fl.length : Int) ≤ _
      omega

/-! ## Safety -/
def ownerP (p : LPkt) : Int := if p.answer then p.to else p.from_
/-- j keeps to its promise till u, or its clock is beyond. -/
def Lock (f : LF) (o : Nat → Int) (j k : Nat) (u : Int) : Prop := (o j = k ∧ u ≤ (f.nd j).until_) ∨ u ≤ (f.nd j).clock
def Grant (f : LF) (j k : Nat) : Prop := (f.nd k).granted.testBit j = true ∨ ∃ p ∈ f.fl, p.answer = true ∧ p.from_ = j ∧ p.to = k ∧ p.round = (f.nd k).round
structure LInv (f : LF) (o : Nat → Int) : Prop where
  sk : 1 ≤ f.skew ∧ 1 ≤ f.len
  clk : ∀ i, i < f.l.length → 0 ≤ (f.nd i).clock
  pk : ∀ p ∈ f.fl, 0 ≤ p.from_ ∧ p.from_ < f.l.length ∧ 0 ≤ p.to ∧ p.to < f.l.length
  skew : ∀ i j, i < f.l.length → j < f.l.length → (f.nd i).clock - (f.nd j).clock ≤ f.skew
  began : ∀ i, i < f.l.length → (f.nd i).began ≤ (f.nd i).clock
  unt : ∀ i, i < f.l.length → (f.nd i).until_ ≤ (f.nd i).clock + f.len
  whom : ∀ i, i < f.l.length → (f.nd i).whom = -1 ∨ (f.nd i).whom = o i
  rnd : ∀ p ∈ f.fl, p.round ≤ (f.nd (ownerP p).toNat).round
  gb : ∀ k j, k < f.l.length → (f.nd k).granted.testBit j = true → j < f.l.length
  gr : ∀ j k, j < f.l.length → k < f.l.length → Grant f j k → Lock f o j k ((f.nd k).began + f.len - f.skew)
  hold : ∀ k, k < f.l.length → (f.nd k).till ≤ 0 ∨ ∃ M : Nat, f.l.length < 2 * popN 7 M ∧ (∀ j, M.testBit j = true → j < f.l.length) ∧ ∀ j, M.testBit j = true → Lock f o j k ((f.nd k).till + f.skew)
theorem LInv.one {f : LF} {o : Nat → Int} (h : LInv f o) {i k : Nat} (hi : i < f.l.length) (hk : k < f.l.length) (h1 : (f.nd i).clock < (f.nd i).till) (h2 : (f.nd k).clock < (f.nd k).till) : i = k := by
  have c1 := h.clk i hi
  have c2 := h.clk k hk
  rcases h.hold i hi with x | ⟨M, m1, m2, m3⟩
  · omega
  rcases h.hold k hk with x | ⟨M', m1', m2', m3'⟩
  · omega
  obtain ⟨j, hj, b1, b2⟩ := pop_meet m2 m2' m1 m1'
  have s1 := h.skew j i hj hi
  have s2 := h.skew j k hj hk
  rcases m3 j b1 with x | x
  · rcases m3' j b2 with y | y
    · have := x.1.symm.trans y.1; omega
    · omega
  · omega
/-- The same nodes, fewer messages. -/
theorem LInv.fewer {f : LF} {o : Nat → Int} (h : LInv f o) (fl : List LPkt) (hf : ∀ p ∈ fl, p ∈ f.fl) : LInv ⟨f.len, f.skew, f.l, fl⟩ o :=
  ⟨h.sk, h.clk, fun p hp => h.pk p (hf p hp), h.skew, h.began, h.unt, h.whom, fun p hp => h.rnd p (hf p hp), h.gb,
    fun j k hj hk hg => h.gr j k hj hk (hg.imp id fun ⟨p, hp, hr⟩ => ⟨p, hf p hp, hr⟩), h.hold⟩
/-- Node t is another one, its clock as it was. -/
theorem LInv.put {f : LF} {o : Nat → Int} (h : LInv f o) {t : Nat} (ht : t < f.l.length) (x : LNode) (fl : List LPkt) (o' : Nat → Int) (c : x.clock = f.l[t].clock) (b : x.began ≤ x.clock) (u : x.until_ ≤ x.clock + f.len) (w : x.whom = -1 ∨ x.whom = o' t)
    (oo : ∀ j, j ≠ t → o' j = o j) (r : f.l[t].round ≤ x.round)
    (pk : ∀ p ∈ fl, p ∈ f.fl ∨ ((0 ≤ p.from_ ∧ p.from_ < f.l.length ∧ 0 ≤ p.to ∧ p.to < f.l.length) ∧ p.round ≤ (if (ownerP p).toNat = t then x else f.nd (ownerP p).toNat).round))
    (gbt : ∀ j, x.granted.testBit j = true → j < f.l.length) (lk : ∀ j k u, Lock f o j k u → Lock ⟨f.len, f.skew, f.l.set t x, fl⟩ o' j k u)
    (grt : ∀ j, j < f.l.length → Grant ⟨f.len, f.skew, f.l.set t x, fl⟩ j t → Lock ⟨f.len, f.skew, f.l.set t x, fl⟩ o' j t (x.began + f.len - f.skew))
    (gro : ∀ j k, j < f.l.length → k < f.l.length → k ≠ t → (∃ p ∈ fl, p.answer = true ∧ p.from_ = j ∧ p.to = k ∧ p.round = (f.nd k).round) → Grant f j k ∨ Lock ⟨f.len, f.skew, f.l.set t x, fl⟩ o' j k ((f.nd k).began + f.len - f.skew))
    (hd : x.till ≤ 0 ∨ ∃ M : Nat, f.l.length < 2 * popN 7 M ∧ (∀ j, M.testBit j = true → j < f.l.length) ∧ ∀ j, M.testBit j = true → Lock f o j t (x.till + f.skew)) :
    LInv ⟨f.len, f.skew, f.l.set t x, fl⟩ o' := by
  have e := nd_set ht x fl
  have gk := nd_get ht
  have el : (f.l.set t x).length = f.l.length := List.length_set
  refine ⟨h.sk, ?_, ?_, ?_, ?_, ?_, ?_, ?_, ?_, ?_, ?_⟩
  · intro i hi; simp only [el] at hi; rw [e]; split
    · have := h.clk t ht; rw [gk] at this; omega
    · exact h.clk i hi
  · intro p hp
    simp only [el]
    rcases pk p hp with hp | hp
    · exact h.pk p hp
    · exact hp.1
  · intro i j hi hj
    simp only [el] at hi hj
    have s := h.skew i j hi hj
    have sk := h.sk
    rw [e, e]
    by_cases hi2 : i = t
    · by_cases hj2 : j = t
      · rw [if_pos hi2, if_pos hj2]; simp only []; omega
      · rw [if_pos hi2, if_neg hj2]; rw [hi2, gk] at s; simp only []; omega
    · by_cases hj2 : j = t
      · rw [if_neg hi2, if_pos hj2]; rw [hj2, gk] at s; simp only []; omega
      · rw [if_neg hi2, if_neg hj2]; exact s
  · intro i hi; simp only [el] at hi; rw [e]; split
    · exact b
    · exact h.began i hi
  · intro i hi; simp only [el] at hi; rw [e]; split
    · exact u
    · exact h.unt i hi
  · intro i hi; simp only [el] at hi; rw [e]; split
    · rename_i hit; subst hit; exact w
    · rename_i hit; rw [oo i hit]; exact h.whom i hi
  · intro p hp
    rw [e]
    rcases pk p hp with hp | hp
    · have := h.rnd p hp
      split
      · rename_i hk'; rw [hk', gk] at this; omega
      · exact this
    · exact hp.2
  · intro k j hk hb; simp only [el] at hk ⊢; rw [e] at hb
    split at hb
    · exact gbt j hb
    · exact h.gb k j hk hb
  · intro j k hj hk hg
    simp only [el] at hj hk
    by_cases hkt : k = t
    · subst hkt
      have := grt j hj hg
      rw [e, if_pos rfl]; exact this
    · unfold Grant at hg
      rw [e, if_neg hkt] at hg
      rw [e, if_neg hkt]
      rcases hg with hg | hg
      · exact lk j k _ (h.gr j k hj hk (.inl hg))
      · rcases gro j k hj hk hkt hg with hg | hg
        · exact lk j k _ (h.gr j k hj hk hg)
        · exact hg
  · intro k hk
    simp only [el] at hk ⊢
    rw [e]
    split
    · rename_i hkt; subst hkt
      exact hd.imp id fun ⟨M, m1, m2, m3⟩ => ⟨M, m1, m2, fun j hj => lk _ _ _ (m3 j hj)⟩
    · exact (h.hold k hk).imp id fun ⟨M, m1, m2, m3⟩ => ⟨M, m1, m2, fun j hj => lk _ _ _ (m3 j hj)⟩
/-- A lock stays where clock, promise and owner do. -/
theorem Lock.put {f : LF} {o o' : Nat → Int} {t : Nat} (ht : t < f.l.length) {x : LNode} {fl : List LPkt} (c : x.clock = f.l[t].clock) (u : f.l[t].until_ ≤ x.until_) (ho : o' = o) : ∀ j k u, Lock f o j k u → Lock ⟨f.len, f.skew, f.l.set t x, fl⟩ o' j k u := by
  intro j k v hl
  subst ho
  unfold Lock at hl ⊢
  rw [nd_set ht]
  split
  · rename_i hj; subst hj; rw [nd_get ht] at hl; omega
  · exact hl
theorem LInv.step {f f' : LF} {o : Nat → Int} (h : LInv f o) (hs : LStep f f') : ∃ o', LInv f' o' := by
  cases hs with
  | part fl hf hl => exact ⟨o, h.fewer fl hf⟩
  | tick k hk hc =>
    refine ⟨o, ?_⟩
    have e := nd_set hk { f.l[k] with clock := f.l[k].clock + 1 } f.fl
    have gk := nd_get hk
    have el : (f.l.set k { f.l[k] with clock := f.l[k].clock + 1 }).length = f.l.length := List.length_set
    have lk : ∀ j k' u, Lock f o j k' u → Lock { f with l := f.l.set k { f.l[k] with clock := f.l[k].clock + 1 } } o j k' u := fun j k' u hl => by
      unfold Lock at hl ⊢
      rw [e]
      split
      · rename_i hjk; subst hjk; rw [gk] at hl; simp only []; omega
      · exact hl
    refine ⟨h.sk, ?_, ?_, ?_, ?_, ?_, ?_, ?_, ?_, ?_, ?_⟩
    · intro i hi; rw [el] at hi; rw [e]; split
      · have := h.clk k hk; rw [gk] at this; simp only []; omega
      · exact h.clk i hi
    · intro p hp; simp only [el]; exact h.pk p hp
    · intro i j hi hj
      rw [el] at hi hj
      have s := h.skew i j hi hj
      have sk := h.sk
      rw [e, e]
      split
      · rename_i hik; subst hik
        split
        · simp only []; omega
        · rename_i hjk
          have := hc j hj hjk
          rw [nd_get hj]; simp only []; omega
      · split
        · rename_i hjk; subst hjk; rw [gk] at s; simp only []; omega
        · exact s
    · intro i hi; rw [el] at hi; rw [e]; split
      · have := h.began k hk; rw [gk] at this; simp only []; omega
      · exact h.began i hi
    · intro i hi; rw [el] at hi; rw [e]; split
      · have := h.unt k hk; rw [gk] at this; simp only []; omega
      · exact h.unt i hi
    · intro i hi; rw [el] at hi; rw [e]; split
      · rename_i hik; subst hik; have := h.whom i hk; rw [gk] at this; exact this
      · exact h.whom i hi
    · intro p hp; have := h.rnd p hp; rw [e]; split
      · rename_i hk'; rw [hk', gk] at this; exact this
      · exact this
    · intro k' j hk' hb; rw [el] at hk' ⊢; rw [e] at hb
      refine h.gb k' j hk' ?_
      split at hb
      · rename_i hkk; subst hkk; rw [gk]; exact hb
      · exact hb
    · intro j k' hj hk' hg
      rw [el] at hj hk'
      have hg' : Grant f j k' := by
        unfold Grant at hg ⊢
        rw [e] at hg
        split at hg
        · rename_i hkk; subst hkk; rw [gk]; exact hg
        · exact hg
      have := lk j k' _ (h.gr j k' hj hk' hg')
      rw [e]
      split
      · rename_i hkk; subst hkk; rw [gk] at this; exact this
      · exact this
    · intro k' hk'
      rw [el] at hk' ⊢
      have := h.hold k' hk'
      rw [e]
      split
      · rename_i hkk; subst hkk; rw [gk] at this
        exact this.imp id fun ⟨M, m1, m2, m3⟩ => ⟨M, m1, m2, fun j hj => lk _ _ _ (m3 j hj)⟩
      · exact this.imp id fun ⟨M, m1, m2, m3⟩ => ⟨M, m1, m2, fun j hj => lk _ _ _ (m3 j hj)⟩
  | ask k hk =>
    refine ⟨o, ?_⟩
    have gk := nd_get hk
    have hb := h.began k hk
    have hu := h.unt k hk
    have hw := h.whom k hk
    rw [gk] at hb hu hw
    have e3 : ∀ p ∈ f.fl ++ (List.range f.l.length).map (fun j : Nat => (⟨(k : Int), (j : Int), f.l[k].round + 1, false⟩ : LPkt)), p ∈ f.fl ∨ ∃ j : Nat, j < f.l.length ∧ p = ⟨(k : Int), (j : Int), f.l[k].round + 1, false⟩ := fun p hp => by
      rcases List.mem_append.1 hp with hp | hp
      · exact .inl hp
      · obtain ⟨j, hj, rfl⟩ := List.mem_map.1 hp
        exact .inr ⟨j, List.mem_range.1 hj, rfl⟩
    refine h.put hk _ _ o rfl (Int.le_refl _) hu hw (fun _ _ => rfl) (by show f.l[k].round ≤ f.l[k].round + 1; omega) (fun p hp => ?_) (fun j hj => by simp at hj) (Lock.put hk rfl (Int.le_refl _) rfl) (fun j hj hg => ?_) (fun j k' hj hk' hkk hg => ?_) ?_
    · rcases e3 p hp with hp | ⟨j, hj, rfl⟩
      · exact .inl hp
      · refine .inr ⟨by simp only []; omega, ?_⟩
        rw [if_pos (by simp [ownerP])]; exact Int.le_refl _
    · exfalso
      unfold Grant at hg
      rw [nd_set hk, if_pos rfl] at hg
      rcases hg with hg | ⟨p, hp, ha, hf, ht, hr⟩
      · simp at hg
      · rcases e3 p hp with hp | ⟨j, hj, rfl⟩
        · have := h.rnd p hp
          rw [show (ownerP p).toNat = k by unfold ownerP; rw [if_pos ha, ht]; rfl, gk] at this
          simp only [] at hr
          omega
        · cases ha
    · obtain ⟨p, hp, ha, hr⟩ := hg
      rcases e3 p hp with hp | ⟨j, hj, rfl⟩
      · exact .inl (.inr ⟨p, hp, ha, hr⟩)
      · cases ha
    · have := h.hold k hk; rw [gk] at this; exact this
  | fail k hk =>
    refine ⟨o, ?_⟩
    have gk := nd_get hk
    have hc := h.clk k hk
    have hu := h.unt k hk
    rw [gk] at hc hu
    refine h.put hk _ _ o rfl hc (Int.le_refl _) (.inl rfl) (fun _ _ => rfl) (by show f.l[k].round ≤ f.l[k].round + 1; omega) (fun p hp => .inl hp) (fun j hj => by simp at hj) (Lock.put hk rfl hu rfl) (fun j hj hg => ?_) (fun j k' hj hk' hkk hg => .inl (.inr hg)) (.inl (Int.le_refl _))
    exfalso
    unfold Grant at hg
    rw [nd_set hk, if_pos rfl] at hg
    rcases hg with hg | ⟨p, hp, ha, hf, ht, hr⟩
    · simp at hg
    · have := h.rnd p hp
      rw [show (ownerP p).toNat = k by unfold ownerP; rw [if_pos ha, ht]; rfl, gk] at this
      simp only [] at hr
      omega
  | asked i hi ha t ht hto hacc =>
    have hm : f.fl[i] ∈ f.fl := List.getElem_mem hi
    generalize f.fl[i] = p0 at *
    have gk := nd_get ht
    have hp0 := h.pk p0 hm
    have hr0 := h.rnd p0 hm
    have ow : ownerP p0 = p0.from_ := by unfold ownerP; rw [ha]; rfl
    rw [ow] at hr0
    have hb := h.began t ht
    have hu := h.unt t ht
    have hw := h.whom t ht
    rw [gk] at hb hu hw
    refine ⟨fun j => if j = t then p0.from_ else o j, ?_⟩
    have e3 : ∀ p ∈ (dropM f i).fl ++ [(⟨p0.to, p0.from_, p0.round, true⟩ : LPkt)], p ∈ f.fl ∨ p = ⟨p0.to, p0.from_, p0.round, true⟩ := fun p hp => by
      rcases List.mem_append.1 hp with hp | hp
      · exact .inl (drop_mem p hp)
      · exact .inr (by simpa using hp)
    have lk : ∀ j k u, Lock f o j k u → Lock ⟨f.len, f.skew, f.l.set t { f.l[t] with whom := p0.from_, until_ := f.l[t].clock + f.len }, (dropM f i).fl ++ [⟨p0.to, p0.from_, p0.round, true⟩]⟩ (fun j => if j = t then p0.from_ else o j) j k u := by
      intro j k u hl
      unfold Lock at hl ⊢
      rw [nd_set ht]
      by_cases hjt : j = t
      · subst hjt
        rw [gk] at hl
        simp only [if_true]
        rcases hl with ⟨h1, h2⟩ | h2
        · by_cases hk : p0.from_ = k
          · exact .inl ⟨hk, by omega⟩
          · right
            have : ¬ f.l[j].clock < f.l[j].until_ := fun hlt => hacc ⟨fun hwp => by
              rcases hw with x | x
              · omega
              · exact hk (by rw [← hwp, x, h1]), hlt⟩
            omega
        · exact .inr h2
      · simp only [if_neg hjt]; exact hl
    have newlk : ∀ k : Nat, p0.from_ = k → k < f.l.length → Lock ⟨f.len, f.skew, f.l.set t { f.l[t] with whom := p0.from_, until_ := f.l[t].clock + f.len }, (dropM f i).fl ++ [⟨p0.to, p0.from_, p0.round, true⟩]⟩ (fun j => if j = t then p0.from_ else o j) t k ((f.nd k).began + f.len - f.skew) := fun k hk hkl => by
      left
      rw [nd_set ht]
      simp only [if_true]
      have s := h.skew k t hkl ht
      have b := h.began k hkl
      rw [gk] at s
      exact ⟨hk, by omega⟩
    refine h.put ht _ _ _ rfl hb (Int.le_refl _) (.inr (by simp)) (fun j hj => by simp [hj]) (Int.le_refl _) (fun p hp => ?_) (fun j hj => h.gb t j ht (by rw [gk]; exact hj)) lk (fun j hj hg => ?_) (fun j k hj hk hkt hg => ?_) ?_
    · rcases e3 p hp with hp | rfl
      · exact .inl hp
      · refine .inr ⟨by simp only []; omega, ?_⟩
        simp only [ownerP, if_true]
        split
        · rename_i hft; rw [hft, gk] at hr0; exact hr0
        · exact hr0
    · have hg' : Grant f j t ∨ (j = t ∧ p0.from_ = t) := by
        unfold Grant at hg ⊢
        rw [nd_set ht, if_pos rfl] at hg
        rcases hg with hg | ⟨p, hp, h1, h2, h3, h4⟩
        · exact .inl (.inl (by rw [gk]; exact hg))
        · rcases e3 p hp with hp | rfl
          · exact .inl (.inr ⟨p, hp, h1, h2, h3, by rw [gk]; exact h4⟩)
          · right
            simp only [] at h2 h3
            exact ⟨by omega, h3⟩
      rcases hg' with hg' | ⟨h1, h2⟩
      · have := lk j t _ (h.gr j t hj ht hg')
        rw [gk] at this; exact this
      · have := newlk t h2 ht
        rw [gk] at this; rw [h1]; exact this
    · obtain ⟨p, hp, h1, h2, h3, h4⟩ := hg
      rcases e3 p hp with hp | rfl
      · exact .inl (.inr ⟨p, hp, h1, h2, h3, h4⟩)
      · right
        simp only [] at h2 h3
        have : j = t := by omega
        rw [this]
        exact newlk k h3 hk
    · have := h.hold t ht; rw [gk] at this; exact this
  | answered i hi ha t ht hto hr till htill =>
    have hm : f.fl[i] ∈ f.fl := List.getElem_mem hi
    generalize f.fl[i] = p0 at *
    have gk := nd_get ht
    have hp0 := h.pk p0 hm
    obtain ⟨q, hq⟩ : ∃ q : Nat, p0.from_ = q := ⟨p0.from_.toNat, by omega⟩
    have hb := h.began t ht
    have hu := h.unt t ht
    have hw := h.whom t ht
    rw [gk] at hb hu hw
    have bits : ∀ j, (f.l[t].granted ||| 2 ^ p0.from_.toNat).testBit j = true → j < f.l.length ∧ Grant f j t := fun j hj => by
      rw [Nat.testBit_or, Bool.or_eq_true, hq, Int.toNat_natCast, Nat.testBit_two_pow] at hj
      rcases hj with hj | hj
      · exact ⟨h.gb t j ht (by rw [gk]; exact hj), .inl (by rw [gk]; exact hj)⟩
      · have : q = j := by simpa using hj
        subst this
        exact ⟨by omega, .inr ⟨p0, hm, ha, hq, hto, by rw [gk]; exact hr⟩⟩
    refine ⟨o, h.put ht _ _ o rfl hb hu hw (fun _ _ => rfl) (Int.le_refl _) (fun p hp => .inl (drop_mem p hp)) (fun j hj => (bits j hj).1) (Lock.put ht rfl (Int.le_refl _) rfl) (fun j hj hg => ?_) (fun j k hj hk hkt hg => ?_) ?_⟩
    · have hg' : Grant f j t := by
        unfold Grant at hg
        rw [nd_set ht, if_pos rfl] at hg
        rcases hg with hg | ⟨p, hp, h1, h2, h3, h4⟩
        · exact (bits j hg).2
        · exact .inr ⟨p, drop_mem p hp, h1, h2, h3, by rw [gk]; exact h4⟩
      have := Lock.put (x := { f.l[t] with granted := f.l[t].granted ||| 2 ^ p0.from_.toNat, till := till }) (fl := (dropM f i).fl) ht rfl (Int.le_refl _) rfl j t _ (h.gr j t hj ht hg')
      rw [gk] at this; exact this
    · obtain ⟨p, hp, hr'⟩ := hg
      exact .inl (.inr ⟨p, drop_mem p hp, hr'⟩)
    · rcases htill with rfl | ⟨hmaj, rfl⟩
      · have := h.hold t ht; rw [gk] at this; exact this
      · right
        refine ⟨_, by omega, fun j hj => (bits j hj).1, fun j hj => ?_⟩
        have := h.gr j t (bits j hj).1 ht (bits j hj).2
        rw [gk] at this
        show Lock f o j t (f.l[t].began + f.len - 2 * f.skew + f.skew)
        rw [show f.l[t].began + f.len - 2 * f.skew + f.skew = f.l[t].began + f.len - f.skew by omega]
        exact this
end Go.Proofs.Ytegbnmaglkpkjaa
