/-
  Layer 34 (twopc): the model, and what stays so whatever comes.
-/
import Derived.Test.YtmpekddpehhdnaaRg
namespace Go.Proofs.Ytmpekddpehhdnaa
open Go

structure TPart where
  state : Int
  down : Bool
  willing : Bool
structure TMsg where
  kind : Int
  who : Nat
structure TD where
  bs : Int
  bd : Bool
  l : List TPart
  votes : Nat
  acks : Nat
  fl : List TMsg
def TD.pt (d : TD) (i : Nat) : TPart := d.l[i]?.getD ⟨0, false, false⟩
theorem pt_get {d : TD} {i : Nat} (h : i < d.l.length) : d.pt i = d.l[i] := by unfold TD.pt; rw [List.getElem?_eq_getElem h]; rfl
theorem pt_set {d : TD} {l' : List TPart} {i j : Nat} {y : TPart} (hi : i < d.l.length) {bs : Int} {bd : Bool} {v a : Nat} {fl : List TMsg} (hl : l' = d.l.set i y) : TD.pt ⟨bs, bd, l', v, a, fl⟩ j = if j = i then y else d.pt j := by
  subst hl
  unfold TD.pt
  by_cases h : j = i
  · subst h; rw [if_pos rfl]; simp [hi]
  · rw [if_neg h]; simp [List.getElem?_set_ne (fun e => h e.symm)]
def popT : Nat → Nat → Nat
  | 0, _ => 0
  | k + 1, x => x % 2 + popT k (x / 2)
def outK (s : Int) : Int := if s = 2 then 4 else 5
def toAll (n : Nat) (kind : Int) (but : Nat) : List TMsg := ((List.range n).filter fun i => !but.testBit i).map fun i => ⟨kind, i⟩
def tellM (d : TD) (kind : Int) (but : Nat) : TD := { d with fl := d.fl ++ toAll d.l.length kind but }
def notesM (d : TD) (s : Int) : TD := tellM { d with bs := s } (outK s) 0
def beginM (d : TD) : TD × Int := if d.bd = true then (d, 12) else if d.bs = 0 then (tellM d 1 d.votes, 0) else (tellM d (outK d.bs) d.acks, 0)
def giveM (d : TD) : TD × Int := if d.bd = true then (d, 12) else if d.bs ≠ 0 then (d, 8) else (notesM d 3, 0)
def askS (x : TPart) : Int := if x.state = 0 then (if x.willing = true then 1 else 3) else x.state
def askedM (d : TD) (i : Nat) (x : TPart) : TD := { d with l := d.l.set i { x with state := askS x }, fl := d.fl ++ [⟨if askS x = 3 then 3 else 2, i⟩] }
def tellS (kind : Int) (x : TPart) : Int := if kind = 4 ∧ x.state = 1 then 2 else if kind = 5 ∧ (x.state = 0 ∨ x.state = 1) then 3 else x.state
def toldM (d : TD) (i : Nat) (kind : Int) (x : TPart) : TD := { d with l := d.l.set i { x with state := tellS kind x }, fl := d.fl ++ [⟨6, i⟩] }
def fullB (n v : Nat) : Bool := (List.range n).all fun i => v.testBit i
theorem fullB_iff {n v : Nat} : fullB n v = true ↔ ∀ i, i < n → v.testBit i = true := by simp [fullB]
def votedM (d : TD) (i : Nat) (kind : Int) : TD :=
  if kind = 6 then { d with acks := d.acks ||| 2 ^ i }
  else if kind = 3 then (if d.bs = 0 then notesM d 3 else d)
  else if d.bs = 0 ∧ fullB d.l.length (d.votes ||| 2 ^ i) = true then notesM { d with votes := d.votes ||| 2 ^ i } 2 else { d with votes := d.votes ||| 2 ^ i }
def tDropM (d : TD) (k : Nat) : TD := { d with fl := d.fl.take k ++ d.fl.drop (k + 1) }
def tDoubleM (d : TD) (m : TMsg) : TD := { d with fl := d.fl ++ [m] }
def toPart (m : TMsg) : Prop := m.kind = 1 ∨ m.kind = 4 ∨ m.kind = 5
instance (m : TMsg) : Decidable (toPart m) := by unfold toPart; infer_instance
def tDeliverM (d : TD) (k : Nat) (m : TMsg) : TD × Int :=
  if toPart m then
    (if (d.pt m.who).down = true then (tDropM d k, 12) else if m.kind = 1 then (askedM (tDropM d k) m.who (d.pt m.who), 0) else (toldM (tDropM d k) m.who m.kind (d.pt m.who), 0))
  else if d.bd = true then (tDropM d k, 12) else (votedM (tDropM d k) m.who m.kind, 0)
def crashB (d : TD) : TD × Int := if d.bd = true then (d, 12) else ({ d with bd := true, votes := 0, acks := 0 }, 0)
def crashP (d : TD) (i : Nat) (x : TPart) : TD × Int := if x.down = true then (d, 12) else ({ d with l := d.l.set i { x with down := true } }, 0)
def startB (d : TD) : TD × Int := if d.bd = true then ({ d with bd := false, bs := if d.bs = 0 then 3 else d.bs }, 0) else (d, 8)
def startP (d : TD) (i : Nat) (x : TPart) : TD × Int := if x.down = true then ({ d with l := d.l.set i { x with down := false } }, 0) else (d, 8)
def onT (d : TD) (n : Int) (b : TD × Int) (g : Nat → TPart → TD × Int) : TD × Int := if n = -1 then b else if h : 0 ≤ n ∧ n.toNat < d.l.length then g n.toNat d.l[n.toNat] else (d, 6)
def onM (d : TD) (n : Int) (g : Nat → TMsg → TD × Int) : TD × Int := if h : 0 ≤ n ∧ n.toNat < d.fl.length then g n.toNat d.fl[n.toNat] else (d, 6)
def tActM (d : TD) (kd n : Int) : TD × Int :=
  if kd % 9 = 0 then beginM d
  else if kd % 9 = 1 then giveM d
  else if kd % 9 = 5 then onM d n fun k _ => (tDropM d k, 0)
  else if kd % 9 = 6 then onM d n fun _ m => (tDoubleM d m, 0)
  else if kd % 9 = 7 then onT d n (crashB d) (crashP d)
  else if kd % 9 = 8 then onT d n (startB d) (startP d)
  else onM d n fun k m => tDeliverM d k m
theorem onM_bad {d : TD} {n : Int} {g : Nat → TMsg → TD × Int} (h : n < 0 ∨ (d.fl.length : Int) ≤ n) : onM d n g = (d, 6) := by unfold onM; rw [dif_neg (by omega)]
theorem onM_ok {d : TD} {k : Nat} {g : Nat → TMsg → TD × Int} (h : k < d.fl.length) : onM d k g = g k d.fl[k] := by unfold onM; rw [dif_pos ⟨by omega, by omega⟩]; rfl
theorem onT_bad {d : TD} {n : Int} {b : TD × Int} {g : Nat → TPart → TD × Int} (h : n < -1 ∨ (d.l.length : Int) ≤ n) : onT d n b g = (d, 6) := by unfold onT; rw [if_neg (by omega), dif_neg (by omega)]
theorem onT_boss {d : TD} {b : TD × Int} {g : Nat → TPart → TD × Int} : onT d (-1) b g = b := by unfold onT; rw [if_pos rfl]
theorem onT_ok {d : TD} {k : Nat} {b : TD × Int} {g : Nat → TPart → TD × Int} (h : k < d.l.length) : onT d k b g = g k d.l[k] := by unfold onT; rw [if_neg (by omega), dif_pos ⟨by omega, by omega⟩]; rfl

/-! ## Sizes -/
structure TOk (N : Nat) (d : TD) : Prop where
  n7 : 1 ≤ d.l.length ∧ d.l.length ≤ 7
  fk : ∀ m ∈ d.fl, 1 ≤ m.kind ∧ m.kind ≤ 6 ∧ m.who < d.l.length
  vb : d.votes < 2 ^ d.l.length
  ab : d.acks < 2 ^ d.l.length
  fl : d.fl.length ≤ 7 * N
  N : N ≤ 1000000
theorem toAll_mem {n : Nat} {kind : Int} {but : Nat} {m : TMsg} : m ∈ toAll n kind but ↔ m.kind = kind ∧ m.who < n ∧ but.testBit m.who = false := by
  unfold toAll
  simp only [List.mem_map, List.mem_filter, List.mem_range]
  constructor
  · rintro ⟨i, ⟨h1, h2⟩, rfl⟩; exact ⟨rfl, h1, by simpa using h2⟩
  · rintro ⟨rfl, h1, h2⟩; exact ⟨m.who, ⟨h1, by simpa using h2⟩, rfl⟩
theorem toAll_len (n : Nat) (kind : Int) (but : Nat) : (toAll n kind but).length ≤ n := by
  unfold toAll
  rw [List.length_map]
  have := List.length_filter_le (fun i => !but.testBit i) (List.range n)
  simpa using this
theorem tdrop_mem {d : TD} {k : Nat} {m : TMsg} (h : m ∈ (tDropM d k).fl) : m ∈ d.fl := by
  rcases List.mem_append.1 h with h | h
  · exact List.mem_of_mem_take h
  · exact List.mem_of_mem_drop h
theorem tdrop_or {d : TD} {k : Nat} (hk : k < d.fl.length) {m : TMsg} (h : m ∈ d.fl) : m = d.fl[k] ∨ m ∈ (tDropM d k).fl := by
  have e : d.fl = d.fl.take k ++ d.fl[k] :: d.fl.drop (k + 1) := by rw [← List.drop_eq_getElem_cons hk, List.take_append_drop]
  rw [e] at h
  rcases List.mem_append.1 h with h | h
  · exact .inr (List.mem_append_left _ h)
  · rcases List.mem_cons.1 h with h | h
    · exact .inl h
    · exact .inr (List.mem_append_right _ h)
theorem tdrop_len {d : TD} {k : Nat} (hk : k < d.fl.length) : (tDropM d k).fl.length + 1 = d.fl.length := by
  show (d.fl.take k ++ d.fl.drop (k + 1)).length + 1 = _
  rw [List.length_append, List.length_take, List.length_drop]; omega
section
variable {N : Nat} {d : TD}
theorem TOk.mono (h : TOk N d) {M : Nat} (hM : N ≤ M) (hM2 : M ≤ 1000000) : TOk M d := ⟨h.n7, h.fk, h.vb, h.ab, by have := h.fl; omega, hM2⟩
theorem TOk.app (h : TOk N d) (l : List TMsg) (hl : l.length ≤ 7) (hk : ∀ m ∈ l, 1 ≤ m.kind ∧ m.kind ≤ 6 ∧ m.who < d.l.length) (hN : N + 1 ≤ 1000000) : TOk (N + 1) { d with fl := d.fl ++ l } :=
  ⟨h.n7, fun m hm => by rcases List.mem_append.1 hm with hm | hm; exact h.fk m hm; exact hk m hm, h.vb, h.ab, by have := h.fl; show (d.fl ++ l).length ≤ _; rw [List.length_append]; omega, hN⟩
theorem TOk.bs (h : TOk N d) (s : Int) : TOk N { d with bs := s } := ⟨h.n7, h.fk, h.vb, h.ab, h.fl, h.N⟩
theorem TOk.tell (h : TOk N d) (kind : Int) (but : Nat) (hk : 1 ≤ kind ∧ kind ≤ 6) (hN : N + 1 ≤ 1000000) : TOk (N + 1) (tellM d kind but) :=
  h.app _ (Nat.le_trans (toAll_len ..) h.n7.2) (fun m hm => by have := toAll_mem.1 hm; omega) hN
theorem outK_le (s : Int) : 1 ≤ outK s ∧ outK s ≤ 6 := by unfold outK; split <;> omega
theorem TOk.notes (h : TOk N d) (s : Int) (hN : N + 1 ≤ 1000000) : TOk (N + 1) (notesM d s) := (h.bs s).tell _ _ (outK_le s) hN
theorem TOk.drop (h : TOk N d) (k : Nat) : TOk N (tDropM d k) :=
  ⟨h.n7, fun m hm => h.fk m (tdrop_mem hm), h.vb, h.ab, by have := h.fl; show (d.fl.take k ++ d.fl.drop (k + 1)).length ≤ _; rw [List.length_append, List.length_take, List.length_drop]; omega, h.N⟩
theorem TOk.set (h : TOk N d) (i : Nat) (y : TPart) : TOk N { d with l := d.l.set i y } := by
  have e : (d.l.set i y).length = d.l.length := List.length_set
  exact ⟨by show 1 ≤ (d.l.set i y).length ∧ _; rw [e]; exact h.n7, fun m hm => by show _ ∧ _ ∧ m.who < (d.l.set i y).length; rw [e]; exact h.fk m hm, by show d.votes < 2 ^ (d.l.set i y).length; rw [e]; exact h.vb, by show d.acks < 2 ^ (d.l.set i y).length; rw [e]; exact h.ab, h.fl, h.N⟩
theorem or_lt {n v i : Nat} (hv : v < 2 ^ n) (hi : i < n) : v ||| 2 ^ i < 2 ^ n := Nat.or_lt_two_pow hv (Nat.pow_lt_pow_right (by decide) hi)
theorem TOk.vote (h : TOk N d) {i : Nat} (hi : i < d.l.length) : TOk N { d with votes := d.votes ||| 2 ^ i } := ⟨h.n7, h.fk, or_lt h.vb hi, h.ab, h.fl, h.N⟩
theorem TOk.ackd (h : TOk N d) {i : Nat} (hi : i < d.l.length) : TOk N { d with acks := d.acks ||| 2 ^ i } := ⟨h.n7, h.fk, h.vb, or_lt h.ab hi, h.fl, h.N⟩
theorem TOk.voted (h : TOk N d) {i : Nat} (hi : i < d.l.length) (kind : Int) (hN : N + 1 ≤ 1000000) : TOk (N + 1) (votedM d i kind) := by
  unfold votedM
  split
  · exact (h.ackd hi).mono (Nat.le_succ _) hN
  · split
    · split
      · exact h.notes 3 hN
      · exact h.mono (Nat.le_succ _) hN
    · split
      · exact (h.vote hi).notes 2 hN
      · exact (h.vote hi).mono (Nat.le_succ _) hN
theorem TOk.deliver (h : TOk N d) {k : Nat} (hk : k < d.fl.length) (hN : N + 1 ≤ 1000000) : TOk (N + 1) (tDeliverM d k d.fl[k]).1 := by
  have hm := h.fk _ (List.getElem_mem hk)
  have hd := h.drop k
  have h7 := h.n7
  unfold tDeliverM
  split
  · split
    · exact hd.mono (Nat.le_succ _) hN
    · split
      · exact (hd.set d.fl[k].who { d.pt d.fl[k].who with state := askS (d.pt d.fl[k].who) }).app [_] (by show 1 ≤ 7; decide) (fun m hm2 => by
          rw [List.mem_singleton] at hm2; subst hm2
          show _ ∧ _ ∧ d.fl[k].who < (d.l.set _ _).length
          rw [List.length_set]
          refine ⟨?_, ?_, hm.2.2⟩ <;> (show _ ≤ _) <;> simp only [] <;> split <;> decide) hN
      · exact (hd.set d.fl[k].who { d.pt d.fl[k].who with state := tellS d.fl[k].kind (d.pt d.fl[k].who) }).app [_] (by show 1 ≤ 7; decide) (fun m hm2 => by
          rw [List.mem_singleton] at hm2; subst hm2
          show _ ∧ _ ∧ d.fl[k].who < (d.l.set _ _).length
          rw [List.length_set]
          exact ⟨by show (1 : Int) ≤ 6; decide, by show (6 : Int) ≤ 6; decide, hm.2.2⟩) hN
  · split
    · exact hd.mono (Nat.le_succ _) hN
    · exact hd.voted (i := d.fl[k].who) hm.2.2 _ hN
theorem TOk.act (h : TOk N d) (kd n : Int) (hN : N + 1 ≤ 1000000) : TOk (N + 1) (tActM d kd n).1 := by
  have same := h.mono (Nat.le_succ _) hN
  have onm : ∀ g : Nat → TMsg → TD × Int, (∀ k (hk : k < d.fl.length), TOk (N + 1) (g k d.fl[k]).1) → TOk (N + 1) (onM d n g).1 := fun g hg => by
    unfold onM; split
    · rename_i hh; exact hg _ hh.2
    · exact same
  have ont : ∀ (b : TD × Int) (g : Nat → TPart → TD × Int), TOk (N + 1) b.1 → (∀ k (hk : k < d.l.length), TOk (N + 1) (g k d.l[k]).1) → TOk (N + 1) (onT d n b g).1 := fun b g hb hg => by
    unfold onT; split
    · exact hb
    · split
      · rename_i hh; exact hg _ hh.2
      · exact same
  unfold tActM
  split
  · unfold beginM; split
    · exact same
    · split
      · exact h.tell _ _ (by decide) hN
      · exact h.tell _ _ (outK_le _) hN
  · split
    · unfold giveM; split
      · exact same
      · split
        · exact same
        · exact h.notes _ hN
    · split
      · exact onm _ fun k hk => (h.drop k).mono (Nat.le_succ _) hN
      · split
        · exact onm _ fun k hk => h.app [_] (by show 1 ≤ 7; decide) (fun m hm => by rw [List.mem_singleton] at hm; subst hm; exact h.fk _ (List.getElem_mem hk)) hN
        · split
          · refine ont _ _ ?_ fun k hk => ?_
            · unfold crashB; split
              · exact same
              · exact ⟨h.n7, h.fk, Nat.pow_pos (by decide), Nat.pow_pos (by decide), by have := h.fl; show d.fl.length ≤ _; omega, hN⟩
            · unfold crashP; split
              · exact same
              · exact (h.set k _).mono (Nat.le_succ _) hN
          · split
            · refine ont _ _ ?_ fun k hk => ?_
              · unfold startB; split
                · exact ⟨h.n7, h.fk, h.vb, h.ab, by have := h.fl; show d.fl.length ≤ _; omega, hN⟩
                · exact same
              · unfold startP; split
                · exact (h.set k _).mono (Nat.le_succ _) hN
                · exact same
            · exact onm _ fun k hk => h.deliver hk hN
end
/-! ## What stays so -/
structure TInv (d : TD) : Prop where
  bs : d.bs = 0 ∨ d.bs = 2 ∨ d.bs = 3
  st : ∀ i, i < d.l.length → 0 ≤ (d.pt i).state ∧ (d.pt i).state ≤ 3
  com : ∀ i, ⟨4, i⟩ ∈ d.fl → d.bs = 2
  abo : ∀ i, ⟨5, i⟩ ∈ d.fl → d.bs = 3
  won : ∀ i, i < d.l.length → (d.pt i).state = 2 → d.bs = 2
  will : ∀ i, i < d.l.length → (d.pt i).state = 1 ∨ (d.pt i).state = 2 → (d.pt i).willing = true
  all : d.bs = 2 → ∀ i, i < d.l.length → (d.pt i).state = 1 ∨ (d.pt i).state = 2
  yes : ∀ i, i < d.l.length → ⟨2, i⟩ ∈ d.fl ∨ d.votes.testBit i = true → (d.pt i).willing = true ∧ ((d.pt i).state = 1 ∨ (d.pt i).state = 2 ∨ d.bs = 3)
  ack : ∀ i, i < d.l.length → ⟨6, i⟩ ∈ d.fl ∨ d.acks.testBit i = true → 2 ≤ d.bs ∧ (d.pt i).state = d.bs
/-- Its answer stands open as long as a vote is lacking. -/
def TOpen (d : TD) : Prop := d.bs = 0 → fullB d.l.length d.votes = false
section
variable {d : TD}
theorem TInv.sub (h : TInv d) {b : Bool} {v a : Nat} {fl : List TMsg} (hf : ∀ m ∈ fl, m ∈ d.fl) (hv : ∀ i, v.testBit i = true → d.votes.testBit i = true) (ha : ∀ i, a.testBit i = true → d.acks.testBit i = true) : TInv { d with bd := b, votes := v, acks := a, fl := fl } :=
  ⟨h.bs, h.st, fun i hi => h.com i (hf _ hi), fun i hi => h.abo i (hf _ hi), h.won, h.will, h.all, fun i hi hy => h.yes i hi (hy.imp (hf _) (hv _)), fun i hi hy => h.ack i hi (hy.imp (hf _) (ha _))⟩
theorem TInv.app (h : TInv d) {l : List TMsg} (hl : ∀ m ∈ l, m.kind = 1 ∨ m.kind = 3 ∨ (m.kind = 4 ∧ d.bs = 2) ∨ (m.kind = 5 ∧ d.bs = 3)) : TInv { d with fl := d.fl ++ l } := by
  have key : ∀ k i, (⟨k, i⟩ : TMsg) ∈ d.fl ++ l → (⟨k, i⟩ : TMsg) ∈ d.fl ∨ (k = 1 ∨ k = 3 ∨ (k = 4 ∧ d.bs = 2) ∨ (k = 5 ∧ d.bs = 3)) := fun k i hm => by
    rcases List.mem_append.1 hm with hm | hm
    · exact .inl hm
    · exact .inr (hl _ hm)
  refine ⟨h.bs, h.st, fun i hi => ?_, fun i hi => ?_, h.won, h.will, h.all, fun i hi hy => ?_, fun i hi hy => ?_⟩
  · rcases key _ _ hi with x | x
    · exact h.com i x
    · show d.bs = 2; omega
  · rcases key _ _ hi with x | x
    · exact h.abo i x
    · show d.bs = 3; omega
  · refine h.yes i hi (hy.imp (fun x => ?_) id)
    rcases key _ _ x with x | x
    · exact x
    · omega
  · refine h.ack i hi (hy.imp (fun x => ?_) id)
    rcases key _ _ x with x | x
    · exact x
    · omega
theorem TInv.abort (h : TInv d) (h0 : d.bs = 0) (b : Bool) : TInv { d with bd := b, bs := 3 } :=
  ⟨.inr (.inr rfl), h.st, fun i hi => by have := h.com i hi; omega, fun i hi => rfl, fun i hi hs => by have := h.won i hi hs; omega, h.will, fun e => absurd e (by show ¬ (3 : Int) = 2; decide), fun i hi hy => ⟨(h.yes i hi hy).1, .inr (.inr rfl)⟩,
    fun i hi hy => by have := h.ack i hi hy; omega⟩
theorem TInv.commit (h : TInv d) (h0 : d.bs = 0) (hf : fullB d.l.length d.votes = true) : TInv { d with bs := 2 } := by
  have hs : ∀ i, i < d.l.length → (d.pt i).state = 1 ∨ (d.pt i).state = 2 := fun i hi => by
    rcases (h.yes i hi (.inr (fullB_iff.1 hf i hi))).2 with x | x | x
    · exact .inl x
    · exact .inr x
    · omega
  exact ⟨.inr (.inl rfl), h.st, fun i hi => rfl, fun i hi => by have := h.abo i hi; omega, fun i hi _ => rfl, h.will, fun _ => hs, fun i hi hy => ⟨(h.yes i hi hy).1, (hs i hi).imp id .inl⟩,
    fun i hi hy => by have := h.ack i hi hy; omega⟩
theorem out_app {d : TD} (h : TInv d) (hb : 2 ≤ d.bs) (but : Nat) : TInv (tellM d (outK d.bs) but) := by
  refine h.app fun m hm => ?_
  have := (toAll_mem.1 hm).1
  unfold outK at this
  rcases h.bs with x | x | x
  · omega
  · rw [if_pos x] at this; exact .inr (.inr (.inl ⟨this, x⟩))
  · rw [if_neg (by omega)] at this; exact .inr (.inr (.inr ⟨this, x⟩))
theorem TInv.notes3 (h : TInv d) (h0 : d.bs = 0) : TInv (notesM d 3) := out_app (d := { d with bs := 3 }) (h.abort h0 d.bd) (by show (2 : Int) ≤ 3; decide) 0
theorem TInv.notes2 (h : TInv d) (h0 : d.bs = 0) (hf : fullB d.l.length d.votes = true) : TInv (notesM d 2) := out_app (d := { d with bs := 2 }) (h.commit h0 hf) (by show (2 : Int) ≤ 2; decide) 0
theorem TInv.down (h : TInv d) {i : Nat} (hi : i < d.l.length) (b : Bool) : TInv { d with l := d.l.set i { d.l[i] with down := b } } := by
  have e : ∀ j, ((TD.pt { d with l := d.l.set i { d.l[i] with down := b } } j).state = (d.pt j).state) ∧ ((TD.pt { d with l := d.l.set i { d.l[i] with down := b } } j).willing = (d.pt j).willing) := fun j => by
    rw [pt_set hi rfl]
    split
    · rename_i hj; subst hj; rw [pt_get hi]; exact ⟨rfl, rfl⟩
    · exact ⟨rfl, rfl⟩
  have el : (d.l.set i { d.l[i] with down := b }).length = d.l.length := List.length_set
  have lt : ∀ {j}, j < (d.l.set i { d.l[i] with down := b }).length → j < d.l.length := fun hj => by rw [el] at hj; exact hj
  refine ⟨h.bs, fun j hj => ?_, h.com, h.abo, fun j hj => ?_, fun j hj => ?_, fun hb j hj => ?_, fun j hj => ?_, fun j hj => ?_⟩
  · rw [(e j).1]; exact h.st j (lt hj)
  · rw [(e j).1]; exact h.won j (lt hj)
  · rw [(e j).1, (e j).2]; exact h.will j (lt hj)
  · rw [(e j).1]; exact h.all hb j (lt hj)
  · rw [(e j).1, (e j).2]; exact h.yes j (lt hj)
  · rw [(e j).1]; exact h.ack j (lt hj)
/-- One participant's state goes on, and it answers. -/
theorem TInv.part (h : TInv d) {i : Nat} {s k : Int} {fl : List TMsg} (hi : i < d.l.length) (hf : ∀ m ∈ fl, m ∈ d.fl ∨ m = ⟨k, i⟩) (hs : 0 ≤ s ∧ s ≤ 3) (hk : k = 2 ∨ k = 3 ∨ k = 6)
    (stay : 2 ≤ (d.pt i).state → s = (d.pt i).state) (win : s = 2 → d.bs = 2) (wil : s = 1 ∨ s = 2 → (d.pt i).willing = true) (al : d.bs = 2 → s = 1 ∨ s = 2)
    (ye : (d.pt i).state = 1 → s = 1 ∨ s = 2 ∨ d.bs = 3) (k2 : k = 2 → (d.pt i).willing = true ∧ (s = 1 ∨ s = 2 ∨ d.bs = 3)) (k6 : k = 6 → 2 ≤ d.bs ∧ s = d.bs) :
    TInv { d with l := d.l.set i { d.pt i with state := s }, fl := fl } := by
  have e : ∀ j, TD.pt { d with l := d.l.set i { d.pt i with state := s }, fl := fl } j = if j = i then { d.pt i with state := s } else d.pt j := fun j => pt_set hi rfl
  have el : (d.l.set i { d.pt i with state := s }).length = d.l.length := List.length_set
  have lt : ∀ {j}, j < (d.l.set i { d.pt i with state := s }).length → j < d.l.length := fun hj => by rw [el] at hj; exact hj
  have mem : ∀ {k' j}, (⟨k', j⟩ : TMsg) ∈ fl → (⟨k', j⟩ : TMsg) ∈ d.fl ∨ (k' = k ∧ j = i) := fun hm => by
    rcases hf _ hm with x | x
    · exact .inl x
    · simp only [TMsg.mk.injEq] at x; exact .inr x
  refine ⟨h.bs, fun j hj => ?_, fun j hj => ?_, fun j hj => ?_, fun j hj => ?_, fun j hj => ?_, fun hb j hj => ?_, fun j hj => ?_, fun j hj => ?_⟩
  · rw [e]; split
    · exact hs
    · exact h.st j (lt hj)
  · rcases mem hj with x | x
    · exact h.com j x
    · omega
  · rcases mem hj with x | x
    · exact h.abo j x
    · omega
  · rw [e]; split
    · exact win
    · exact h.won j (lt hj)
  · rw [e]; split
    · exact wil
    · exact h.will j (lt hj)
  · rw [e]; split
    · exact al hb
    · exact h.all hb j (lt hj)
  · rw [e]
    intro hy
    split
    · rename_i hji; subst hji
      have old : ⟨2, j⟩ ∈ d.fl ∨ d.votes.testBit j = true → (d.pt j).willing = true ∧ (s = 1 ∨ s = 2 ∨ d.bs = 3) := fun hy => by
        obtain ⟨a, b⟩ := h.yes j hi hy
        refine ⟨a, ?_⟩
        rcases b with b | b | b
        · exact ye b
        · have := stay (by omega); omega
        · exact .inr (.inr b)
      rcases hy with hy | hy
      · rcases mem hy with x | x
        · exact old (.inl x)
        · exact k2 x.1.symm
      · exact old (.inr hy)
    · rename_i hji
      refine h.yes j (lt hj) (hy.imp (fun x => ?_) id)
      rcases mem x with x | x
      · exact x
      · exact absurd x.2 hji
  · rw [e]
    intro hy
    split
    · rename_i hji; subst hji
      have old : ⟨6, j⟩ ∈ d.fl ∨ d.acks.testBit j = true → 2 ≤ d.bs ∧ s = d.bs := fun hy => by
        obtain ⟨a, b⟩ := h.ack j hi hy
        have := stay (by omega)
        exact ⟨a, by omega⟩
      rcases hy with hy | hy
      · rcases mem hy with x | x
        · exact old (.inl x)
        · exact k6 x.1.symm
      · exact old (.inr hy)
    · rename_i hji
      refine h.ack j (lt hj) (hy.imp (fun x => ?_) id)
      rcases mem x with x | x
      · exact x
      · exact absurd x.2 hji
theorem askS_cases (x : TPart) : (x.state = 0 ∧ x.willing = true ∧ askS x = 1) ∨ (x.state = 0 ∧ askS x = 3) ∨ (x.state ≠ 0 ∧ askS x = x.state) := by
  unfold askS
  by_cases h : x.state = 0
  · rw [if_pos h]
    by_cases hw : x.willing = true
    · rw [if_pos hw]; exact .inl ⟨h, hw, rfl⟩
    · rw [if_neg hw]; exact .inr (.inl ⟨h, rfl⟩)
  · rw [if_neg h]; exact .inr (.inr ⟨h, rfl⟩)
theorem TInv.asked (h : TInv d) {i : Nat} {fl : List TMsg} (hi : i < d.l.length) (hf : ∀ m ∈ fl, m ∈ d.fl) : TInv (askedM { d with fl := fl } i (d.pt i)) := by
  have h0 := h.st i hi
  have h1 := h.won i hi
  have h2 := h.will i hi
  have h3 := fun hb => h.all hb i hi
  have h4 := h.bs
  have S := askS_cases (d.pt i)
  have wil : askS (d.pt i) = 1 ∨ askS (d.pt i) = 2 → (d.pt i).willing = true := fun e => by
    rcases S with ⟨_, a, _⟩ | ⟨_, a⟩ | ⟨_, a⟩
    · exact a
    · omega
    · exact h2 (by omega)
  refine TInv.part (d := d) (s := askS (d.pt i)) (k := if askS (d.pt i) = 3 then 3 else 2) h hi (fun m hm => ?_) (by omega) (by split <;> simp) (by omega) (fun e => ?_) wil (fun hb => ?_) (by omega) (fun e => ?_) (fun e => ?_)
  · rcases List.mem_append.1 hm with hm | hm
    · exact .inl (hf m hm)
    · exact .inr (List.mem_singleton.1 hm)
  · rcases S with ⟨_, _, a⟩ | ⟨_, a⟩ | ⟨_, a⟩
    · omega
    · omega
    · exact h1 (by omega)
  · have := h3 hb; omega
  · have h5 : askS (d.pt i) = 1 ∨ askS (d.pt i) = 2 := by
      have hn : askS (d.pt i) ≠ 3 := fun x => by rw [if_pos x] at e; omega
      omega
    exact ⟨wil h5, by omega⟩
  · exfalso; split at e <;> omega
theorem tellS_eq (h : TInv d) {i : Nat} {k : Int} (hi : i < d.l.length) (hk : (k = 4 ∧ d.bs = 2) ∨ (k = 5 ∧ d.bs = 3)) : tellS k (d.pt i) = d.bs := by
  have h0 := h.st i hi
  have h1 := h.won i hi
  have h3 := fun hb => h.all hb i hi
  unfold tellS
  rcases hk with ⟨rfl, hb⟩ | ⟨rfl, hb⟩
  · have := h3 hb
    split
    · exact hb.symm
    · split <;> omega
  · rw [if_neg (by omega)]
    split
    · exact hb.symm
    · have : (d.pt i).state ≠ 2 := fun e => by have := h1 e; omega
      omega
theorem TInv.told (h : TInv d) {i : Nat} {k : Int} {fl : List TMsg} (hi : i < d.l.length) (hf : ∀ m ∈ fl, m ∈ d.fl) (hk : (k = 4 ∧ d.bs = 2) ∨ (k = 5 ∧ d.bs = 3)) : TInv (toldM { d with fl := fl } i k (d.pt i)) := by
  have h0 := h.st i hi
  have h1 := h.won i hi
  have h2 := h.will i hi
  have h3 := fun hb => h.all hb i hi
  have h4 := h.bs
  have S := tellS_eq h hi hk
  have st : 2 ≤ (d.pt i).state → d.bs = (d.pt i).state := fun e => by
    rcases hk with ⟨_, hb⟩ | ⟨_, hb⟩
    · have := h3 hb; omega
    · have : (d.pt i).state ≠ 2 := fun e => by have := h1 e; omega
      omega
  refine TInv.part (d := d) (s := tellS k (d.pt i)) (k := 6) h hi (fun m hm => ?_) (by omega) (by omega) (by rw [S]; exact st) (by omega) (fun e => ?_) (fun hb => by omega) (fun _ => by omega) (fun e => by omega) (fun _ => by omega)
  · rcases List.mem_append.1 hm with hm | hm
    · exact .inl (hf m hm)
    · exact .inr (List.mem_singleton.1 hm)
  · exact h2 (h3 (by omega))
theorem testBit_or (v i j : Nat) : (v ||| 2 ^ i).testBit j = (v.testBit j || decide (i = j)) := by rw [Nat.testBit_or, Nat.testBit_two_pow]
theorem TInv.voted (h : TInv d) (ho : TOpen d) {m : TMsg} {fl : List TMsg} (hi : m.who < d.l.length) (hm : m ∈ d.fl) (hf : ∀ m ∈ fl, m ∈ d.fl) (hk : m.kind = 2 ∨ m.kind = 3 ∨ m.kind = 6) : TInv (votedM { d with fl := fl } m.who m.kind) ∧ TOpen (votedM { d with fl := fl } m.who m.kind) := by
  have hd : TInv { d with fl := fl } := h.sub hf (fun _ x => x) fun _ x => x
  have hod : TOpen { d with fl := fl } := ho
  unfold votedM
  split
  · rename_i h6
    have h6m : (⟨6, m.who⟩ : TMsg) ∈ d.fl := by rw [← h6]; exact hm
    refine ⟨⟨hd.bs, hd.st, hd.com, hd.abo, hd.won, hd.will, hd.all, hd.yes, fun i hi2 hy => ?_⟩, hod⟩
    rcases hy with hy | hy
    · exact hd.ack i hi2 (.inl hy)
    · rw [testBit_or, Bool.or_eq_true, decide_eq_true_eq] at hy
      rcases hy with hy | hy
      · exact hd.ack i hi2 (.inr hy)
      · rw [← hy]; exact h.ack m.who hi (.inl h6m)
  · split
    · split
      · rename_i h0; exact ⟨hd.notes3 h0, fun e => absurd e (by show ¬ (3 : Int) = 0; decide)⟩
      · exact ⟨hd, hod⟩
    · rename_i h6 h3
      have h2m : (⟨2, m.who⟩ : TMsg) ∈ d.fl := by have : m.kind = 2 := by omega
                                                  rw [← this]; exact hm
      have hv : TInv { d with votes := d.votes ||| 2 ^ m.who, fl := fl } := by
        refine ⟨hd.bs, hd.st, hd.com, hd.abo, hd.won, hd.will, hd.all, fun i hi2 hy => ?_, hd.ack⟩
        rcases hy with hy | hy
        · exact hd.yes i hi2 (.inl hy)
        · rw [testBit_or, Bool.or_eq_true, decide_eq_true_eq] at hy
          rcases hy with hy | hy
          · exact hd.yes i hi2 (.inr hy)
          · rw [← hy]; exact h.yes m.who hi (.inl h2m)
      split
      · rename_i hc
        exact ⟨hv.notes2 hc.1 hc.2, fun e => absurd e (by show ¬ (2 : Int) = 0; decide)⟩
      · rename_i hc
        refine ⟨hv, fun h0 => ?_⟩
        cases hb : fullB d.l.length (d.votes ||| 2 ^ m.who) with
        | false => rfl
        | true => exact absurd ⟨h0, hb⟩ hc
theorem TInv.deliver {N : Nat} (h : TInv d) (ho : TOpen d) (hok : TOk N d) {k : Nat} (hk : k < d.fl.length) : TInv (tDeliverM d k d.fl[k]).1 ∧ TOpen (tDeliverM d k d.fl[k]).1 := by
  have hm := hok.fk _ (List.getElem_mem hk)
  have hmm := List.getElem_mem hk
  have hd : TInv (tDropM d k) := h.sub (fun m hm => tdrop_mem hm) (fun _ x => x) fun _ x => x
  unfold tDeliverM
  split
  · rename_i htp
    split
    · exact ⟨hd, ho⟩
    · split
      · exact ⟨h.asked hm.2.2 fun m hm => tdrop_mem hm, fun h0 => by have := ho h0; show fullB (d.l.set _ _).length d.votes = false; rw [List.length_set]; exact this⟩
      · rename_i h1
        refine ⟨h.told hm.2.2 (fun m hm => tdrop_mem hm) ?_, fun h0 => by have := ho h0; show fullB (d.l.set _ _).length d.votes = false; rw [List.length_set]; exact this⟩
        rcases htp with e | e | e
        · exact absurd e h1
        · exact .inl ⟨e, h.com d.fl[k].who (by rw [← e]; exact hmm)⟩
        · exact .inr ⟨e, h.abo d.fl[k].who (by rw [← e]; exact hmm)⟩
  · rename_i htp
    unfold toPart at htp
    split
    · exact ⟨hd, ho⟩
    · exact h.voted ho hm.2.2 hmm (fun m hm => tdrop_mem hm) (by omega)
theorem TInv.act {N : Nat} (h : TInv d) (ho : TOpen d) (hok : TOk N d) (kd n : Int) : TInv (tActM d kd n).1 ∧ TOpen (tActM d kd n).1 := by
  have onm : ∀ g : Nat → TMsg → TD × Int, (∀ k (hk : k < d.fl.length), TInv (g k d.fl[k]).1 ∧ TOpen (g k d.fl[k]).1) → TInv (onM d n g).1 ∧ TOpen (onM d n g).1 := fun g hg => by
    unfold onM; split
    · rename_i hh; exact hg _ hh.2
    · exact ⟨h, ho⟩
  have ont : ∀ (b : TD × Int) (g : Nat → TPart → TD × Int), (TInv b.1 ∧ TOpen b.1) → (∀ k (hk : k < d.l.length), TInv (g k d.l[k]).1 ∧ TOpen (g k d.l[k]).1) → TInv (onT d n b g).1 ∧ TOpen (onT d n b g).1 := fun b g hb hg => by
    unfold onT; split
    · exact hb
    · split
      · rename_i hh; exact hg _ hh.2
      · exact ⟨h, ho⟩
  have dn : ∀ k (hk : k < d.l.length) b, TInv { d with l := d.l.set k { d.l[k] with down := b } } ∧ TOpen { d with l := d.l.set k { d.l[k] with down := b } } := fun k hk b =>
    ⟨h.down hk b, fun h0 => by have := ho h0; show fullB (d.l.set _ _).length d.votes = false; rw [List.length_set]; exact this⟩
  unfold tActM
  split
  · unfold beginM; split
    · exact ⟨h, ho⟩
    · split
      · exact ⟨h.app fun m hm => .inl (toAll_mem.1 hm).1, ho⟩
      · exact ⟨out_app h (by have := h.bs; omega) _, ho⟩
  · split
    · unfold giveM; split
      · exact ⟨h, ho⟩
      · split
        · exact ⟨h, ho⟩
        · exact ⟨h.notes3 (by omega), fun e => absurd e (by show ¬ (3 : Int) = 0; decide)⟩
    · split
      · exact onm _ fun k hk => ⟨h.sub (fun m hm => tdrop_mem hm) (fun _ x => x) fun _ x => x, ho⟩
      · split
        · refine onm _ fun k hk => ⟨h.sub (fl := d.fl ++ [d.fl[k]]) (fun m hm => ?_) (fun _ x => x) fun _ x => x, ho⟩
          rcases List.mem_append.1 hm with hm | hm
          · exact hm
          · rw [List.mem_singleton.1 hm]; exact List.getElem_mem hk
        · split
          · refine ont _ _ ?_ fun k hk => ?_
            · unfold crashB; split
              · exact ⟨h, ho⟩
              · refine ⟨h.sub (fun m hm => hm) (fun i x => by simp at x) fun i x => by simp at x, fun h0 => ?_⟩
                cases hb : fullB d.l.length 0 with
                | false => rfl
                | true => have := fullB_iff.1 hb 0 hok.n7.1; simp at this
            · unfold crashP; split
              · exact ⟨h, ho⟩
              · exact dn k hk true
          · split
            · refine ont _ _ ?_ fun k hk => ?_
              · unfold startB; split
                · by_cases h0 : d.bs = 0
                  · rw [if_pos h0]; exact ⟨h.abort h0 false, fun e => absurd e (by show ¬ (3 : Int) = 0; decide)⟩
                  · rw [if_neg h0]; exact ⟨h.sub (b := false) (fun m hm => hm) (fun _ x => x) fun _ x => x, ho⟩
                · exact ⟨h, ho⟩
              · unfold startP; split
                · exact dn k hk false
                · exact ⟨h, ho⟩
            · exact onm _ fun k hk => h.deliver ho hok hk
end
end Go.Proofs.Ytmpekddpehhdnaa
