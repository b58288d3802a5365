/-
  Layer 34 (twopc): what was noted stays; how it comes to its end.
-/
import Derived.Test.YtmpekddpehhdnaaTb
namespace Go.Proofs.Ytmpekddpehhdnaa
open Go

/-! ## What stays -/
structure Stay (d d' : TD) : Prop where
  len : d'.l.length = d.l.length
  will : d'.l.map (·.willing) = d.l.map (·.willing)
  bs : 2 ≤ d.bs → d'.bs = d.bs
  st : ∀ i, i < d.l.length → 2 ≤ (d.pt i).state → (d'.pt i).state = (d.pt i).state
theorem Stay.refl (d : TD) : Stay d d := ⟨rfl, rfl, fun _ => rfl, fun _ _ _ => rfl⟩
theorem Stay.trans {a b c : TD} (h1 : Stay a b) (h2 : Stay b c) : Stay a c :=
  ⟨h2.len.trans h1.len, h2.will.trans h1.will, fun h => by have := h1.bs h; have := h2.bs (by omega); omega, fun i hi h => by
    have e1 := h1.st i hi h
    have e2 := h2.st i (by rw [h1.len]; exact hi) (by omega)
    omega⟩
/-- All but the participants' states, and what was noted. -/
theorem Stay.rest {d : TD} {b : Bool} {v a : Nat} {fl : List TMsg} : Stay d { d with bd := b, votes := v, acks := a, fl := fl } := ⟨rfl, rfl, fun _ => rfl, fun _ _ _ => rfl⟩
theorem Stay.note {d : TD} (h0 : d.bs = 0) {s : Int} {b : Bool} {v a : Nat} {fl : List TMsg} : Stay d { d with bs := s, bd := b, votes := v, acks := a, fl := fl } := ⟨rfl, rfl, fun h => by omega, fun _ _ _ => rfl⟩
theorem Stay.part {d : TD} {i : Nat} (hi : i < d.l.length) {y : TPart} {fl : List TMsg} (hw : y.willing = (d.pt i).willing) (hs : 2 ≤ (d.pt i).state → y.state = (d.pt i).state) : Stay d { d with l := d.l.set i y, fl := fl } := by
  refine ⟨List.length_set, ?_, fun _ => rfl, fun j hj h => ?_⟩
  · show (d.l.set i y).map _ = _
    rw [List.map_set, hw, pt_get hi]
    rw [show d.l[i].willing = (d.l.map (·.willing))[i]'(by rw [List.length_map]; exact hi) by rw [List.getElem_map]]
    exact List.set_getElem_self ..
  · rw [pt_set hi rfl]
    split
    · rename_i e; subst e; exact hs h
    · rfl
section
variable {d : TD}
theorem stay_voted {i : Nat} {k : Int} : Stay d (votedM d i k) := by
  unfold votedM
  split
  · exact .rest
  · split
    · split
      · rename_i h; exact .note h
      · exact .refl d
    · split
      · rename_i h; exact .note h.1
      · exact .rest
theorem stay_deliver {k : Nat} {m : TMsg} (hm : m.who < d.l.length) : Stay d (tDeliverM d k m).1 := by
  have hd : Stay d (tDropM d k) := .rest
  unfold tDeliverM
  split
  · split
    · exact hd
    · split
      · refine hd.trans (Stay.part (d := tDropM d k) (y := { d.pt m.who with state := askS (d.pt m.who) }) hm rfl fun h => ?_)
        have h : 2 ≤ (d.pt m.who).state := h
        show askS (d.pt m.who) = (d.pt m.who).state
        unfold askS; rw [if_neg (by omega)]
      · refine hd.trans (Stay.part (d := tDropM d k) (y := { d.pt m.who with state := tellS m.kind (d.pt m.who) }) hm rfl fun h => ?_)
        have h : 2 ≤ (d.pt m.who).state := h
        show tellS m.kind (d.pt m.who) = (d.pt m.who).state
        unfold tellS; rw [if_neg (by omega), if_neg (by omega)]
  · split
    · exact hd
    · exact hd.trans stay_voted
theorem stay_act {N : Nat} (hok : TOk N d) (kd n : Int) : Stay d (tActM d kd n).1 := by
  have onm : ∀ g : Nat → TMsg → TD × Int, (∀ k (hk : k < d.fl.length), Stay d (g k d.fl[k]).1) → Stay d (onM d n g).1 := fun g hg => by
    unfold onM; split
    · rename_i hh; exact hg _ hh.2
    · exact .refl d
  have ont : ∀ (b : TD × Int) (g : Nat → TPart → TD × Int), Stay d b.1 → (∀ k (hk : k < d.l.length), Stay d (g k d.l[k]).1) → Stay d (onT d n b g).1 := fun b g hb hg => by
    unfold onT; split
    · exact hb
    · split
      · rename_i hh; exact hg _ hh.2
      · exact .refl d
  have dn : ∀ k (hk : k < d.l.length) b, Stay d { d with l := d.l.set k { d.l[k] with down := b } } := fun k hk b => Stay.part hk (by rw [pt_get hk]) fun _ => by rw [pt_get hk]
  unfold tActM
  split
  · unfold beginM; split
    · exact .refl d
    · split
      · exact .rest
      · exact .rest
  · split
    · unfold giveM; split
      · exact .refl d
      · split
        · exact .refl d
        · rename_i h; exact .note (by omega)
    · split
      · exact onm _ fun k hk => .rest
      · split
        · exact onm _ fun k hk => .rest
        · split
          · refine ont _ _ ?_ fun k hk => ?_
            · unfold crashB; split
              · exact .refl d
              · exact .rest
            · unfold crashP; split
              · exact .refl d
              · exact dn k hk true
          · split
            · refine ont _ _ ?_ fun k hk => ?_
              · unfold startB; split
                · by_cases h0 : d.bs = 0
                  · exact .note h0
                  · rw [if_neg h0]; exact .rest
                · exact .refl d
              · unfold startP; split
                · exact dn k hk false
                · exact .refl d
            · exact onm _ fun k hk => stay_deliver (hok.fk _ (List.getElem_mem hk)).2.2
theorem pt_will {d d' : TD} (h : d'.l.map (·.willing) = d.l.map (·.willing)) (i : Nat) : (d'.pt i).willing = (d.pt i).willing := by
  have e : (d'.l.map (·.willing))[i]? = (d.l.map (·.willing))[i]? := by rw [h]
  rw [List.getElem?_map, List.getElem?_map] at e
  unfold TD.pt
  cases h1 : d'.l[i]? <;> cases h2 : d.l[i]? <;> rw [h1, h2] at e <;> simp at e <;> simp [e]
/-- None ever have noted both ends. -/
theorem TInv.atomic (h : TInv d) (hc : d.bs = 2 ∨ ∃ i, i < d.l.length ∧ (d.pt i).state = 2) : d.bs = 2 ∧ ∀ i, i < d.l.length → (d.pt i).state ≠ 3 ∧ (d.pt i).willing = true := by
  have hb : d.bs = 2 := by
    rcases hc with hc | ⟨i, hi, hs⟩
    · exact hc
    · exact h.won i hi hs
  exact ⟨hb, fun i hi => ⟨by have := h.all hb i hi; omega, h.will i hi (h.all hb i hi)⟩⟩
end

/-! ## All run -/
structure Up (d : TD) : Prop where
  inv : TInv d
  opn : TOpen d
  bd : d.bd = false
  dn : ∀ i, i < d.l.length → (d.pt i).down = false
def Prog1 (d : TD) : Prop := 2 ≤ d.bs ∨ ∀ i, i < d.l.length → d.votes.testBit i = true ∨ ⟨1, i⟩ ∈ d.fl ∨ ⟨2, i⟩ ∈ d.fl ∨ ⟨3, i⟩ ∈ d.fl
def Prog2 (d : TD) : Prop := 2 ≤ d.bs → ∀ i, i < d.l.length → (d.pt i).state = d.bs ∨ ⟨outK d.bs, i⟩ ∈ d.fl
def Nice (d : TD) : Prop := d.bs ≠ 3 ∧ (∀ m ∈ d.fl, m.kind ≠ 3) ∧ ∀ i, i < d.l.length → (d.pt i).willing = true ∧ (d.pt i).state ≠ 3
def wtL (l : List TMsg) : Nat := (l.map fun m => if toPart m then 2 else 1).sum
theorem wtL_app (a b : List TMsg) : wtL (a ++ b) = wtL a + wtL b := by simp [wtL]
theorem wtL_cons (m : TMsg) (b : List TMsg) : wtL (m :: b) = (if toPart m then 2 else 1) + wtL b := by simp [wtL]
theorem wtL_le : ∀ l : List TMsg, wtL l ≤ 2 * l.length
  | [] => Nat.le_refl _
  | m :: l => by have := wtL_le l; rw [wtL_cons, List.length_cons]; split <;> omega
theorem len_le_wtL : ∀ l : List TMsg, l.length ≤ wtL l
  | [] => Nat.le_refl _
  | m :: l => by have := len_le_wtL l; rw [wtL_cons, List.length_cons]; split <;> omega
def wt (d : TD) : Nat := wtL d.fl + (if d.bs = 0 then 2 * d.l.length else 0)
section
variable {d : TD} {N : Nat}
theorem up_cases (h : Up d) (hok : TOk N d) {k : Nat} (hk : k < d.fl.length) :
    (d.fl[k].kind = 1 ∧ (tDeliverM d k d.fl[k]).1 = askedM (tDropM d k) d.fl[k].who (d.pt d.fl[k].who)) ∨
    (((d.fl[k].kind = 4 ∧ d.bs = 2) ∨ (d.fl[k].kind = 5 ∧ d.bs = 3)) ∧ (tDeliverM d k d.fl[k]).1 = toldM (tDropM d k) d.fl[k].who d.fl[k].kind (d.pt d.fl[k].who)) ∨
    ((d.fl[k].kind = 2 ∨ d.fl[k].kind = 3 ∨ d.fl[k].kind = 6) ∧ (tDeliverM d k d.fl[k]).1 = votedM (tDropM d k) d.fl[k].who d.fl[k].kind) := by
  have hm := hok.fk _ (List.getElem_mem hk)
  have hmm := List.getElem_mem hk
  unfold tDeliverM
  by_cases ht : toPart d.fl[k]
  · rw [if_pos ht, if_neg (by rw [h.dn _ hm.2.2]; decide)]
    by_cases h1 : d.fl[k].kind = 1
    · rw [if_pos h1]; exact .inl ⟨h1, rfl⟩
    · rw [if_neg h1]
      refine .inr (.inl ⟨?_, rfl⟩)
      rcases ht with e | e | e
      · exact absurd e h1
      · exact .inl ⟨e, h.inv.com d.fl[k].who (by rw [← e]; exact hmm)⟩
      · exact .inr ⟨e, h.inv.abo d.fl[k].who (by rw [← e]; exact hmm)⟩
  · rw [if_neg ht, if_neg (by rw [h.bd]; decide)]
    unfold toPart at ht
    exact .inr (.inr ⟨by omega, rfl⟩)
theorem voted_cases {i : Nat} {k : Int} (hk : k = 2 ∨ k = 3 ∨ k = 6) :
    (k = 6 ∧ votedM d i k = { d with acks := d.acks ||| 2 ^ i }) ∨ (k = 3 ∧ d.bs ≠ 0 ∧ votedM d i k = d) ∨ (k = 2 ∧ votedM d i k = { d with votes := d.votes ||| 2 ^ i }) ∨
    (d.bs = 0 ∧ ((k = 3 ∧ votedM d i k = notesM d 3) ∨ (k = 2 ∧ votedM d i k = notesM { d with votes := d.votes ||| 2 ^ i } 2))) := by
  unfold votedM
  by_cases h6 : k = 6
  · rw [if_pos h6]; exact .inl ⟨h6, rfl⟩
  · rw [if_neg h6]
    by_cases h3 : k = 3
    · rw [if_pos h3]
      by_cases h0 : d.bs = 0
      · rw [if_pos h0]; exact .inr (.inr (.inr ⟨h0, .inl ⟨h3, rfl⟩⟩))
      · rw [if_neg h0]; exact .inr (.inl ⟨h3, h0, rfl⟩)
    · rw [if_neg h3]
      have h2 : k = 2 := by omega
      split
      · rename_i hc; exact .inr (.inr (.inr ⟨hc.1, .inr ⟨h2, rfl⟩⟩))
      · exact .inr (.inr (.inl ⟨h2, rfl⟩))
theorem Up.deliver (h : Up d) (hok : TOk N d) {k : Nat} (hk : k < d.fl.length) : Up (tDeliverM d k d.fl[k]).1 := by
  obtain ⟨i1, i2⟩ := h.inv.deliver h.opn hok hk
  have hm := hok.fk _ (List.getElem_mem hk)
  have part : ∀ {y : TPart} {fl : List TMsg}, y.down = false → ∀ i, i < (d.l.set d.fl[k].who y).length → (TD.pt { d with l := d.l.set d.fl[k].who y, fl := fl } i).down = false := fun hy i hi => by
    rw [List.length_set] at hi
    rw [pt_set hm.2.2 rfl]
    split
    · exact hy
    · exact h.dn i hi
  rcases up_cases h hok hk with ⟨_, e⟩ | ⟨_, e⟩ | ⟨hk2, e⟩
  · rw [e] at i1 i2 ⊢
    exact ⟨i1, i2, h.bd, part (y := { d.pt d.fl[k].who with state := askS (d.pt d.fl[k].who) }) (h.dn _ hm.2.2)⟩
  · rw [e] at i1 i2 ⊢
    exact ⟨i1, i2, h.bd, part (y := { d.pt d.fl[k].who with state := tellS d.fl[k].kind (d.pt d.fl[k].who) }) (h.dn _ hm.2.2)⟩
  · rw [e] at i1 i2 ⊢
    rcases voted_cases (d := tDropM d k) (i := d.fl[k].who) hk2 with ⟨_, e⟩ | ⟨_, _, e⟩ | ⟨_, e⟩ | ⟨_, ⟨_, e⟩ | ⟨_, e⟩⟩ <;> rw [e] at i1 i2 ⊢ <;> exact ⟨i1, i2, h.bd, h.dn⟩
theorem keep_ne {k : Nat} (hk : k < d.fl.length) {m : TMsg} (hm : m ∈ d.fl) (hne : m ≠ d.fl[k]) : m ∈ (tDropM d k).fl := (tdrop_or hk hm).resolve_left hne
theorem kind_ne {m m' : TMsg} (h : m.kind ≠ m'.kind) : m ≠ m' := fun e => h (by rw [e])
theorem Prog1.deliver (hp : Prog1 d) (h : Up d) (hok : TOk N d) {k : Nat} (hk : k < d.fl.length) : Prog1 (tDeliverM d k d.fl[k]).1 := by
  have hm := hok.fk _ (List.getElem_mem hk)
  rcases up_cases h hok hk with ⟨h1, e⟩ | ⟨h45, e⟩ | ⟨hk2, e⟩
  · rw [e]
    rcases hp with hp | hp
    · exact .inl hp
    · refine .inr fun i hi => ?_
      have hi : i < (d.l.set _ _).length := hi
      rw [List.length_set] at hi
      rcases hp i hi with a | a | a | a
      · exact .inl a
      · rcases tdrop_or hk a with b | b
        · have hw : d.fl[k].who = i := by rw [← b]
          by_cases h3 : askS (d.pt d.fl[k].who) = 3
          · exact .inr (.inr (.inr (List.mem_append_right _ (by rw [if_pos h3, hw]; exact List.mem_singleton.2 rfl))))
          · exact .inr (.inr (.inl (List.mem_append_right _ (by rw [if_neg h3, hw]; exact List.mem_singleton.2 rfl))))
        · exact .inr (.inl (List.mem_append_left _ b))
      · exact .inr (.inr (.inl (List.mem_append_left _ (keep_ne hk a (kind_ne (by rw [h1]; show ¬ (2 : Int) = 1; decide))))))
      · exact .inr (.inr (.inr (List.mem_append_left _ (keep_ne hk a (kind_ne (by rw [h1]; show ¬ (3 : Int) = 1; decide))))))
  · rw [e]
    exact .inl (by show 2 ≤ d.bs; omega)
  · rw [e]
    rcases voted_cases (d := tDropM d k) (i := d.fl[k].who) hk2 with ⟨h6, e⟩ | ⟨_, h0, e⟩ | ⟨h2, e⟩ | ⟨_, ⟨_, e⟩ | ⟨_, e⟩⟩ <;> rw [e]
    · rcases hp with hp | hp
      · exact .inl hp
      · refine .inr fun i hi => ?_
        rcases hp i hi with a | a | a | a
        · exact .inl a
        · exact .inr (.inl (keep_ne hk a (kind_ne (by rw [h6]; show ¬ (1 : Int) = 6; decide))))
        · exact .inr (.inr (.inl (keep_ne hk a (kind_ne (by rw [h6]; show ¬ (2 : Int) = 6; decide)))))
        · exact .inr (.inr (.inr (keep_ne hk a (kind_ne (by rw [h6]; show ¬ (3 : Int) = 6; decide)))))
    · have h0 : d.bs ≠ 0 := h0
      have := h.inv.bs
      exact .inl (by show 2 ≤ d.bs; omega)
    · rcases hp with hp | hp
      · exact .inl hp
      · refine .inr fun i hi => ?_
        show (d.votes ||| 2 ^ d.fl[k].who).testBit i = true ∨ _
        rw [testBit_or, Bool.or_eq_true, decide_eq_true_eq]
        rcases hp i hi with a | a | a | a
        · exact .inl (.inl a)
        · exact .inr (.inl (keep_ne hk a (kind_ne (by rw [h2]; show ¬ (1 : Int) = 2; decide))))
        · rcases tdrop_or hk a with b | b
          · exact .inl (.inr (by rw [← b]))
          · exact .inr (.inr (.inl b))
        · exact .inr (.inr (.inr (keep_ne hk a (kind_ne (by rw [h2]; show ¬ (3 : Int) = 2; decide)))))
    · exact .inl (by show (2 : Int) ≤ 3; decide)
    · exact .inl (by show (2 : Int) ≤ 2; decide)
theorem outK_45 (s : Int) : outK s = 4 ∨ outK s = 5 := by unfold outK; split <;> simp
theorem toAll0 {n : Nat} {k : Int} {i : Nat} (hi : i < n) : (⟨k, i⟩ : TMsg) ∈ toAll n k 0 := toAll_mem.2 ⟨rfl, hi, by simp⟩
theorem Prog2.deliver (hp : Prog2 d) (h : Up d) (hok : TOk N d) {k : Nat} (hk : k < d.fl.length) : Prog2 (tDeliverM d k d.fl[k]).1 := by
  have hm := hok.fk _ (List.getElem_mem hk)
  rcases up_cases h hok hk with ⟨h1, e⟩ | ⟨h45, e⟩ | ⟨hk2, e⟩
  · rw [e]
    intro hb i hi
    have hi : i < (d.l.set _ _).length := hi
    rw [List.length_set] at hi
    have hb : 2 ≤ d.bs := hb
    show (TD.pt { d with l := d.l.set _ _, fl := _ } i).state = d.bs ∨ _
    rcases hp hb i hi with a | a
    · left
      rw [pt_set hm.2.2 rfl]
      split
      · rename_i hw; rw [← hw]; show askS (d.pt i) = _; unfold askS; rw [if_neg (by omega)]; exact a
      · exact a
    · exact .inr (List.mem_append_left _ (keep_ne hk a (kind_ne (by rw [h1]; have := outK_45 d.bs; show ¬ outK d.bs = 1; omega))))
  · rw [e]
    intro hb i hi
    have hi : i < (d.l.set _ _).length := hi
    rw [List.length_set] at hi
    have hb : 2 ≤ d.bs := hb
    show (TD.pt { d with l := d.l.set _ _, fl := _ } i).state = d.bs ∨ _
    by_cases hw : i = d.fl[k].who
    · left
      rw [pt_set hm.2.2 rfl, if_pos hw]
      exact tellS_eq h.inv hm.2.2 h45
    · rcases hp hb i hi with a | a
      · left; rw [pt_set hm.2.2 rfl, if_neg hw]; exact a
      · exact .inr (List.mem_append_left _ (keep_ne hk a fun e => hw (by rw [← e])))
  · rw [e]
    have same : ∀ {v a : Nat}, Prog2 { tDropM d k with votes := v, acks := a } := fun hb i hi => by
      have hb : 2 ≤ d.bs := hb
      rcases hp hb i hi with a | a
      · exact .inl a
      · exact .inr (keep_ne hk a (kind_ne (by have := outK_45 d.bs; show ¬ outK d.bs = _; omega)))
    rcases voted_cases (d := tDropM d k) (i := d.fl[k].who) hk2 with ⟨h6, e⟩ | ⟨_, h0, e⟩ | ⟨h2, e⟩ | ⟨_, ⟨_, e⟩ | ⟨_, e⟩⟩ <;> rw [e]
    · exact same
    · exact same
    · exact same
    · exact fun _ i hi => .inr (List.mem_append_right _ (toAll0 hi))
    · exact fun _ i hi => .inr (List.mem_append_right _ (toAll0 hi))
theorem Nice.deliver (hp : Nice d) (h : Up d) (hok : TOk N d) {k : Nat} (hk : k < d.fl.length) : Nice (tDeliverM d k d.fl[k]).1 := by
  obtain ⟨p1, p2, p3⟩ := hp
  have hm := hok.fk _ (List.getElem_mem hk)
  have hk3 := p2 _ (List.getElem_mem hk)
  have part : ∀ {s : Int} {fl : List TMsg}, s ≠ 3 → ∀ i, i < (d.l.set d.fl[k].who { d.pt d.fl[k].who with state := s }).length → (TD.pt { d with l := d.l.set d.fl[k].who { d.pt d.fl[k].who with state := s }, fl := fl } i).willing = true ∧ (TD.pt { d with l := d.l.set d.fl[k].who { d.pt d.fl[k].who with state := s }, fl := fl } i).state ≠ 3 := fun hs i hi => by
    rw [List.length_set] at hi
    rw [pt_set hm.2.2 rfl]
    split
    · exact ⟨(p3 _ hm.2.2).1, hs⟩
    · exact p3 i hi
  rcases up_cases h hok hk with ⟨h1, e⟩ | ⟨h45, e⟩ | ⟨hk2, e⟩
  · rw [e]
    have ha : askS (d.pt d.fl[k].who) ≠ 3 := by
      unfold askS
      have := p3 _ hm.2.2
      split
      · rw [if_pos this.1]; decide
      · exact this.2
    refine ⟨p1, fun m hm2 => ?_, part ha⟩
    rcases List.mem_append.1 hm2 with hm2 | hm2
    · exact p2 m (tdrop_mem hm2)
    · rw [List.mem_singleton] at hm2; rw [hm2, if_neg ha]; show ¬ (2 : Int) = 3; decide
  · rw [e]
    have hb : d.bs = 2 := by omega
    have ht := tellS_eq h.inv hm.2.2 h45
    refine ⟨p1, fun m hm2 => ?_, part (by rw [ht, hb]; decide)⟩
    rcases List.mem_append.1 hm2 with hm2 | hm2
    · exact p2 m (tdrop_mem hm2)
    · rw [List.mem_singleton] at hm2; rw [hm2]; show ¬ (6 : Int) = 3; decide
  · rw [e]
    rcases voted_cases (d := tDropM d k) (i := d.fl[k].who) hk2 with ⟨h6, e⟩ | ⟨_, h0, e⟩ | ⟨h2, e⟩ | ⟨_, ⟨h3, e⟩ | ⟨_, e⟩⟩ <;> rw [e]
    · exact ⟨p1, fun m hm2 => p2 m (tdrop_mem hm2), p3⟩
    · exact ⟨p1, fun m hm2 => p2 m (tdrop_mem hm2), p3⟩
    · exact ⟨p1, fun m hm2 => p2 m (tdrop_mem hm2), p3⟩
    · exact absurd h3 hk3
    · refine ⟨by show ¬ (2 : Int) = 3; decide, fun m hm2 => ?_, p3⟩
      rcases List.mem_append.1 hm2 with hm2 | hm2
      · exact p2 m (tdrop_mem hm2)
      · rw [(toAll_mem.1 hm2).1]; decide
theorem wt_deliver (h : Up d) (hok : TOk N d) (hk : 0 < d.fl.length) : wt (tDeliverM d 0 d.fl[0]).1 + 1 ≤ wt d := by
  have hfl : d.fl = d.fl[0] :: (tDropM d 0).fl := by
    show d.fl = d.fl[0] :: (d.fl.take 0 ++ d.fl.drop (0 + 1))
    rw [List.take_zero, List.nil_append, ← List.drop_eq_getElem_cons hk]; rfl
  have hw : wtL d.fl = (if toPart d.fl[0] then 2 else 1) + wtL (tDropM d 0).fl := by conv => lhs; rw [hfl, wtL_cons]
  have one : ∀ {k : Int} {i : Nat}, k = 2 ∨ k = 3 ∨ k = 6 → wtL [⟨k, i⟩] = 1 := fun hk => by
    rw [wtL_cons, if_neg (fun x => by unfold toPart at x; simp only at x; omega)]; rfl
  unfold wt
  rw [hw]
  rcases up_cases h hok hk with ⟨h1, e⟩ | ⟨h45, e⟩ | ⟨hk2, e⟩
  · rw [e, if_pos (show toPart d.fl[0] from .inl h1)]
    show wtL ((tDropM d 0).fl ++ [_]) + (if d.bs = 0 then 2 * (d.l.set _ _).length else 0) + 1 ≤ _
    rw [wtL_app, one (by split <;> simp), List.length_set]
    omega
  · rw [e, if_pos (show toPart d.fl[0] by rcases h45 with x | x; exact .inr (.inl x.1); exact .inr (.inr x.1))]
    show wtL ((tDropM d 0).fl ++ [_]) + (if d.bs = 0 then 2 * (d.l.set _ _).length else 0) + 1 ≤ _
    rw [wtL_app, one (.inr (.inr rfl)), List.length_set]
    omega
  · rw [e, if_neg (show ¬ toPart d.fl[0] from fun x => by unfold toPart at x; omega)]
    have tl : ∀ s but, wtL (toAll d.l.length s but) ≤ 2 * d.l.length := fun s but => Nat.le_trans (wtL_le _) (Nat.mul_le_mul_left _ (toAll_len ..))
    rcases voted_cases (d := tDropM d 0) (i := d.fl[0].who) hk2 with ⟨h6, e⟩ | ⟨_, h0, e⟩ | ⟨h2, e⟩ | ⟨h0, ⟨h3, e⟩ | ⟨_, e⟩⟩ <;> rw [e]
    · show wtL (tDropM d 0).fl + (if d.bs = 0 then 2 * d.l.length else 0) + 1 ≤ _; omega
    · show wtL (tDropM d 0).fl + (if d.bs = 0 then 2 * d.l.length else 0) + 1 ≤ _; omega
    · show wtL (tDropM d 0).fl + (if d.bs = 0 then 2 * d.l.length else 0) + 1 ≤ _; omega
    · have h0 : d.bs = 0 := h0
      show wtL ((tDropM d 0).fl ++ toAll d.l.length _ _) + (if (3 : Int) = 0 then 2 * d.l.length else 0) + 1 ≤ _
      have := tl (outK 3) 0
      rw [wtL_app, if_pos h0, if_neg (by decide)]; omega
    · have h0 : d.bs = 0 := h0
      show wtL ((tDropM d 0).fl ++ toAll d.l.length _ _) + (if (2 : Int) = 0 then 2 * d.l.length else 0) + 1 ≤ _
      have := tl (outK 2) 0
      rw [wtL_app, if_pos h0, if_neg (by decide)]; omega
end
/-- All messages come. -/
theorem settle_all : ∀ (f : Nat) {N : Nat} {d : TD}, Up d → TOk N d → N + f ≤ 1000000 → wt d ≤ f →
    (settleM f d).1.fl = [] ∧ Up (settleM f d).1 ∧ Stay d (settleM f d).1 ∧ (Prog1 d → Prog1 (settleM f d).1) ∧ (Prog2 d → Prog2 (settleM f d).1) ∧ (Nice d → Nice (settleM f d).1)
  | 0, N, d, h, hok, hN, hw => by
    have : d.fl.length ≤ 0 := by have := len_le_wtL d.fl; unfold wt at hw; omega
    exact ⟨List.eq_nil_of_length_eq_zero (by show d.fl.length = 0; omega), h, .refl d, id, id, id⟩
  | f + 1, N, d, h, hok, hN, hw => by
    cases hf : d.fl with
    | nil =>
      have e : settleM (f + 1) d = (d, 0) := by rw [settleM, hf]
      rw [e]
      exact ⟨hf, h, .refl d, id, id, id⟩
    | cons m l =>
      have hk : 0 < d.fl.length := by rw [hf]; simp
      have em : d.fl[0] = m := by simp only [hf]; rfl
      have e : (settleM (f + 1) d).1 = (settleM f (tDeliverM d 0 d.fl[0]).1).1 := by rw [em, settleM, hf]
      rw [e]
      have hw2 := wt_deliver h hok hk
      obtain ⟨a1, a2, a3, a4, a5, a6⟩ := settle_all f (h.deliver hok hk) (hok.deliver hk (by omega)) (by omega) (by omega)
      exact ⟨a1, a2, (stay_deliver (hok.fk _ (List.getElem_mem hk)).2.2).trans a3, fun p => a4 (p.deliver h hok hk), fun p => a5 (p.deliver h hok hk), fun p => a6 (p.deliver h hok hk)⟩
theorem done1 {d : TD} (h : Up d) (hf : d.fl = []) (hp : Prog1 d) : 2 ≤ d.bs := by
  rcases hp with hp | hp
  · exact hp
  · have hfull : fullB d.l.length d.votes = true := fullB_iff.2 fun i hi => by
      rcases hp i hi with a | a | a | a
      · exact a
      all_goals (rw [hf] at a; cases a)
    have h0 : d.bs ≠ 0 := fun h0 => by have := h.opn h0; rw [this] at hfull; cases hfull
    have := h.inv.bs
    omega
theorem done2 {d : TD} (hf : d.fl = []) (hb : 2 ≤ d.bs) (hp : Prog2 d) : ∀ i, (hi : i < d.l.length) → d.l[i].state = d.bs := fun i hi => by
  rcases hp hb i hi with a | a
  · rw [pt_get hi] at a; exact a
  · rw [hf] at a; cases a
/-- It begins: it asks, or tells. -/
theorem Up.begin {N : Nat} {d : TD} (h : Up d) (hok : TOk N d) : Up (beginM d).1 ∧ (beginM d).2 = 0 ∧ Prog1 (beginM d).1 ∧ (2 ≤ d.bs → Prog2 (beginM d).1 ∧ (beginM d).1.bs = d.bs) := by
  have hb := h.inv.bs
  unfold beginM
  rw [if_neg (by rw [h.bd]; decide)]
  by_cases h0 : d.bs = 0
  · rw [if_pos h0]
    refine ⟨⟨h.inv.app fun m hm => .inl (toAll_mem.1 hm).1, h.opn, h.bd, h.dn⟩, rfl, .inr fun i hi => ?_, fun x => by omega⟩
    have hi : i < d.l.length := hi
    show d.votes.testBit i = true ∨ _
    cases hv : d.votes.testBit i with
    | true => exact .inl rfl
    | false => exact .inr (.inl (List.mem_append_right _ (toAll_mem.2 ⟨rfl, hi, hv⟩)))
  · rw [if_neg h0]
    have hb2 : 2 ≤ d.bs := by omega
    refine ⟨⟨out_app h.inv hb2 _, h.opn, h.bd, h.dn⟩, rfl, .inl hb2, fun _ => ⟨fun _ i hi => ?_, rfl⟩⟩
    have hi : i < d.l.length := hi
    cases hv : d.acks.testBit i with
    | true => exact .inl (h.inv.ack i hi (.inr hv)).2
    | false => exact .inr (List.mem_append_right _ (toAll_mem.2 ⟨rfl, hi, hv⟩))
end Go.Proofs.Ytmpekddpehhdnaa
