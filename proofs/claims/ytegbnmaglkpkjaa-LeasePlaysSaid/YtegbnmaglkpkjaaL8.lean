/-
  Layer 30 (lease), plain: the document's rows beside the program's nodes.
-/
import Derived.Test.YtegbnmaglkpkjaaL6
namespace Go.Proofs.Ytegbnmaglkpkjaa
open Go

def cv (C : List Int) (i : Nat) : Int := C[i]?.getD 0
theorem cv_get {C : List Int} {k : Nat} (h : k < C.length) : C[k] = cv C k := by unfold cv; rw [List.getElem?_eq_getElem h]; rfl
theorem cv_set {C : List Int} {k : Nat} (h : k < C.length) (v : Int) (i : Nat) : cv (C.set k v) i = if i = k then v else cv C i := by
  unfold cv
  by_cases hi : i = k
  · subst hi; simp [h]
  · rw [if_neg hi, List.getElem?_set_ne (fun e => hi e.symm)]
theorem cv_rep (n : Nat) (v : Int) (i : Nat) (h : i < n) : cv (List.replicate n v) i = v := by
  unfold cv
  rw [List.getElem?_replicate, if_pos h]; rfl
structure LG where
  from_ : Int
  to : Int
  round : Int
/-- The rows tell what the nodes hold. -/
structure LR (N : Int) (f : LF) (C R B T W P : List Int) (G : List LG) : Prop where
  lc : C.length = f.l.length
  lr : R.length = f.l.length
  lb : B.length = f.l.length
  lt : T.length = f.l.length
  lw : W.length = f.l.length
  lp : P.length = f.l.length
  c : ∀ i, i < f.l.length → cv C i = (f.nd i).clock
  r : ∀ i, i < f.l.length → cv R i = (f.nd i).round
  t : ∀ i, i < f.l.length → cv T i = (f.nd i).till
  w : ∀ i, i < f.l.length → cv W i = (f.nd i).whom
  p : ∀ i, i < f.l.length → cv P i = (f.nd i).until_
  b : ∀ i, i < f.l.length → (∃ p ∈ f.fl, (ownerP p).toNat = i ∧ p.round = (f.nd i).round) → cv B i = (f.nd i).began
  g : ∀ j k, j < f.l.length → k < f.l.length → ((f.nd k).granted.testBit j = true ↔ ∃ x ∈ G, x.from_ = (j : Int) ∧ x.to = (k : Int) ∧ x.round = (f.nd k).round)
  go : ∀ x ∈ G, 0 ≤ x.to ∧ x.to < f.l.length ∧ x.round ≤ (f.nd x.to.toNat).round
  gl : (G.length : Int) ≤ N
section
variable {N : Int} {f : LF} {C R B T W P : List Int} {G : List LG}
theorem LR.mono {M : Int} (L : LR N f C R B T W P G) (h : N ≤ M) : LR M f C R B T W P G := { L with gl := Int.le_trans L.gl h }
theorem LR.part (L : LR N f C R B T W P G) {fl : List LPkt} (h : ∀ p ∈ fl, p ∈ f.fl) : LR N ⟨f.len, f.skew, f.l, fl⟩ C R B T W P G :=
  ⟨L.lc, L.lr, L.lb, L.lt, L.lw, L.lp, L.c, L.r, L.t, L.w, L.p, fun i hi ⟨p, hp, h1, h2⟩ => L.b i hi ⟨p, h p hp, h1, h2⟩, L.g, L.go, L.gl⟩
theorem LR.tick (L : LR N f C R B T W P G) {k : Nat} (hk : k < f.l.length) : LR N { f with l := f.l.set k { f.l[k] with clock := f.l[k].clock + 1 } } (C.set k (cv C k + 1)) R B T W P G := by
  have hN := nd_set hk { f.l[k] with clock := f.l[k].clock + 1 } f.fl
  have hnd : f.nd k = f.l[k] := nd_get hk
  have hl : ({ f with l := f.l.set k { f.l[k] with clock := f.l[k].clock + 1 } } : LF).l.length = f.l.length := List.length_set
  have hsame : ∀ {α : Type} (q : LNode → α), (∀ (x : LNode) (v : Int), q { x with clock := v } = q x) → ∀ i, q (LF.nd ⟨f.len, f.skew, f.l.set k { f.l[k] with clock := f.l[k].clock + 1 }, f.fl⟩ i) = q (f.nd i) := fun q hq i => by
    rw [hN]
    split
    · rename_i h; subst h; rw [hnd, hq]
    · rfl
  refine ⟨by rw [List.length_set, hl]; exact L.lc, by rw [hl]; exact L.lr, by rw [hl]; exact L.lb, by rw [hl]; exact L.lt, by rw [hl]; exact L.lw, by rw [hl]; exact L.lp, fun i hi => ?_, fun i hi => ?_, fun i hi => ?_, fun i hi => ?_, fun i hi => ?_, fun i hi hp => ?_, fun j m hj hm => ?_, fun x hx => ?_, L.gl⟩
  all_goals first | rw [hl] at hi | rw [hl] at hj hm | skip
  · rw [cv_set (by rw [L.lc]; exact hk), hN]
    split
    · rw [L.c k hk, hnd]
    · exact L.c i hi
  · rw [hsame LNode.round (fun _ _ => rfl)]; exact L.r i hi
  · rw [hsame LNode.till (fun _ _ => rfl)]; exact L.t i hi
  · rw [hsame LNode.whom (fun _ _ => rfl)]; exact L.w i hi
  · rw [hsame LNode.until_ (fun _ _ => rfl)]; exact L.p i hi
  · rw [hsame LNode.round (fun _ _ => rfl)] at hp
    rw [hsame LNode.began (fun _ _ => rfl)]; exact L.b i hi hp
  · rw [hsame LNode.round (fun _ _ => rfl), hsame LNode.granted (fun _ _ => rfl)]; exact L.g j m hj hm
  · rw [hsame LNode.round (fun _ _ => rfl), hl]; exact L.go x hx
theorem LR.ask (L : LR N f C R B T W P G) {k : Nat} (hk : k < f.l.length) : LR N (askM f k f.l[k]) C (R.set k (cv R k + 1)) (B.set k (cv C k)) T W P G := by
  have hN := nd_set hk { f.l[k] with round := f.l[k].round + 1, began := f.l[k].clock, granted := 0 } (f.fl ++ (List.range f.l.length).map fun j : Nat => ⟨(k : Int), (j : Int), f.l[k].round + 1, false⟩)
  have hnd : f.nd k = f.l[k] := nd_get hk
  have hl : (askM f k f.l[k]).l.length = f.l.length := List.length_set
  have hsame : ∀ {α : Type} (q : LNode → α), (∀ (x : LNode) (u v : Int) (w : Nat), q { x with round := u, began := v, granted := w } = q x) → ∀ i, q ((askM f k f.l[k]).nd i) = q (f.nd i) := fun q hq i => by
    show q (LF.nd ⟨_, _, _, _⟩ i) = _
    rw [hN]
    split
    · rename_i h; subst h; rw [hnd, hq]
    · rfl
  have hoth : ∀ i, i ≠ k → (askM f k f.l[k]).nd i = f.nd i := fun i hi => (hN i).trans (if_neg hi)
  have hown : (askM f k f.l[k]).nd k = { f.l[k] with round := f.l[k].round + 1, began := f.l[k].clock, granted := 0 } := (hN k).trans (if_pos rfl)
  refine ⟨by rw [hl]; exact L.lc, by rw [List.length_set, hl]; exact L.lr, by rw [List.length_set, hl]; exact L.lb, by rw [hl]; exact L.lt, by rw [hl]; exact L.lw, by rw [hl]; exact L.lp, fun i hi => ?_, fun i hi => ?_, fun i hi => ?_, fun i hi => ?_, fun i hi => ?_, fun i hi hp => ?_, fun j m hj hm => ?_, fun x hx => ?_, L.gl⟩
  all_goals first | rw [hl] at hi | rw [hl] at hj hm | skip
  · rw [hsame LNode.clock (fun _ _ _ _ => rfl)]; exact L.c i hi
  · rw [cv_set (by rw [L.lr]; exact hk)]
    by_cases h : i = k
    · subst h; rw [if_pos rfl, hown, L.r i hk, hnd]
    · rw [if_neg h, hoth i h]; exact L.r i hi
  · rw [hsame LNode.till (fun _ _ _ _ => rfl)]; exact L.t i hi
  · rw [hsame LNode.whom (fun _ _ _ _ => rfl)]; exact L.w i hi
  · rw [hsame LNode.until_ (fun _ _ _ _ => rfl)]; exact L.p i hi
  · rw [cv_set (by rw [L.lb]; exact hk)]
    by_cases h : i = k
    · subst h; rw [if_pos rfl, hown, L.c i hk, hnd]
    · rw [if_neg h, hoth i h]
      obtain ⟨p, hp, h1, h2⟩ := hp
      rw [hoth i h] at h2
      rcases List.mem_append.1 hp with hp | hp
      · exact L.b i hi ⟨p, hp, h1, h2⟩
      · obtain ⟨j, _, rfl⟩ := List.mem_map.1 hp
        exact absurd h1.symm (by show i ≠ k; exact h)
  · by_cases h : m = k
    · subst h
      rw [hown]
      refine ⟨fun hb => ?_, fun ⟨x, hx, h1, h2, h3⟩ => ?_⟩
      · have hb : Nat.testBit 0 j = true := hb
        rw [Nat.zero_testBit] at hb; cases hb
      · have := (L.go x hx).2.2
        rw [h2, Int.toNat_natCast, hnd] at this
        have h3 : x.round = f.l[m].round + 1 := h3
        omega
    · rw [hoth m h]; exact L.g j m hj hm
  · rw [hl]
    obtain ⟨h1, h2, h3⟩ := L.go x hx
    refine ⟨h1, h2, ?_⟩
    by_cases h : x.to.toNat = k
    · rw [h] at h3 ⊢
      rw [hown]
      rw [hnd] at h3
      show x.round ≤ f.l[k].round + 1
      omega
    · rw [hoth _ h]; exact h3
theorem LR.fail {o : Nat → Int} (L : LR N f C R B T W P G) (I : LInv f o) {k : Nat} (hk : k < f.l.length) : LR N (failM f k f.l[k]) C (R.set k (cv R k + 1)) B (T.set k 0) (W.set k (-1)) (P.set k (cv C k + f.len)) G := by
  have hN := nd_set hk ⟨f.l[k].clock, f.l[k].round + 1, 0, 0, 0, -1, f.l[k].clock + f.len⟩ f.fl
  have hnd : f.nd k = f.l[k] := nd_get hk
  have hl : (failM f k f.l[k]).l.length = f.l.length := List.length_set
  have hoth : ∀ i, i ≠ k → (failM f k f.l[k]).nd i = f.nd i := fun i hi => (hN i).trans (if_neg hi)
  have hown : (failM f k f.l[k]).nd k = ⟨f.l[k].clock, f.l[k].round + 1, 0, 0, 0, -1, f.l[k].clock + f.len⟩ := (hN k).trans (if_pos rfl)
  refine ⟨by rw [hl]; exact L.lc, by rw [List.length_set, hl]; exact L.lr, by rw [hl]; exact L.lb, by rw [List.length_set, hl]; exact L.lt, by rw [List.length_set, hl]; exact L.lw, by rw [List.length_set, hl]; exact L.lp, fun i hi => ?_, fun i hi => ?_, fun i hi => ?_, fun i hi => ?_, fun i hi => ?_, fun i hi hp => ?_, fun j m hj hm => ?_, fun x hx => ?_, L.gl⟩
  all_goals first | rw [hl] at hi | rw [hl] at hj hm | skip
  · by_cases h : i = k
    · subst h; rw [hown, L.c i hk, hnd]
    · rw [hoth i h]; exact L.c i hi
  · rw [cv_set (by rw [L.lr]; exact hk)]
    by_cases h : i = k
    · subst h; rw [if_pos rfl, hown, L.r i hk, hnd]
    · rw [if_neg h, hoth i h]; exact L.r i hi
  · rw [cv_set (by rw [L.lt]; exact hk)]
    by_cases h : i = k
    · subst h; rw [if_pos rfl, hown]
    · rw [if_neg h, hoth i h]; exact L.t i hi
  · rw [cv_set (by rw [L.lw]; exact hk)]
    by_cases h : i = k
    · subst h; rw [if_pos rfl, hown]
    · rw [if_neg h, hoth i h]; exact L.w i hi
  · rw [cv_set (by rw [L.lp]; exact hk)]
    by_cases h : i = k
    · subst h; rw [if_pos rfl, hown, L.c i hk, hnd]
    · rw [if_neg h, hoth i h]; exact L.p i hi
  · obtain ⟨p, hp, h1, h2⟩ := hp
    by_cases h : i = k
    · subst h
      have h3 := I.rnd p hp
      rw [h1, hnd] at h3
      rw [hown] at h2
      have h2 : p.round = f.l[i].round + 1 := h2
      omega
    · rw [hoth i h] at h2 ⊢
      exact L.b i hi ⟨p, hp, h1, h2⟩
  · by_cases h : m = k
    · subst h
      rw [hown]
      refine ⟨fun hb => ?_, fun ⟨x, hx, h1, h2, h3⟩ => ?_⟩
      · have hb : Nat.testBit 0 j = true := hb
        rw [Nat.zero_testBit] at hb; cases hb
      · have := (L.go x hx).2.2
        rw [h2, Int.toNat_natCast, hnd] at this
        have h3 : x.round = f.l[m].round + 1 := h3
        omega
    · rw [hoth m h]; exact L.g j m hj hm
  · rw [hl]
    obtain ⟨h1, h2, h3⟩ := L.go x hx
    refine ⟨h1, h2, ?_⟩
    by_cases h : x.to.toNat = k
    · rw [h] at h3 ⊢
      rw [hown]
      rw [hnd] at h3
      show x.round ≤ f.l[k].round + 1
      omega
    · rw [hoth _ h]; exact h3
/-- A request comes, and is granted. -/
theorem LR.asked (L : LR N f C R B T W P G) {p : LPkt} (hp : p ∈ f.fl) (ha : p.answer = false) {fl : List LPkt} (hfl : ∀ q ∈ fl, q ∈ f.fl) {k : Nat} (hk : k < f.l.length) :
    LR N ⟨f.len, f.skew, f.l.set k { f.l[k] with whom := p.from_, until_ := f.l[k].clock + f.len }, fl ++ [⟨p.to, p.from_, p.round, true⟩]⟩ C R B T (W.set k p.from_) (P.set k (cv C k + f.len)) G := by
  have hN := nd_set hk { f.l[k] with whom := p.from_, until_ := f.l[k].clock + f.len } (fl ++ [⟨p.to, p.from_, p.round, true⟩])
  have hnd : f.nd k = f.l[k] := nd_get hk
  have hl : (⟨f.len, f.skew, f.l.set k { f.l[k] with whom := p.from_, until_ := f.l[k].clock + f.len }, fl ++ [⟨p.to, p.from_, p.round, true⟩]⟩ : LF).l.length = f.l.length := List.length_set
  generalize hf : (⟨f.len, f.skew, f.l.set k { f.l[k] with whom := p.from_, until_ := f.l[k].clock + f.len }, fl ++ [⟨p.to, p.from_, p.round, true⟩]⟩ : LF) = f' at hN hl ⊢
  have hff : f'.fl = fl ++ [⟨p.to, p.from_, p.round, true⟩] := by rw [← hf]
  have hsame : ∀ {α : Type} (q : LNode → α), (∀ (x : LNode) (u v : Int), q { x with whom := u, until_ := v } = q x) → ∀ i, q (f'.nd i) = q (f.nd i) := fun q hq i => by
    rw [hN]
    split
    · rename_i h; subst h; rw [hnd, hq]
    · rfl
  refine ⟨by rw [hl]; exact L.lc, by rw [hl]; exact L.lr, by rw [hl]; exact L.lb, by rw [hl]; exact L.lt, by rw [List.length_set, hl]; exact L.lw, by rw [List.length_set, hl]; exact L.lp, fun i hi => ?_, fun i hi => ?_, fun i hi => ?_, fun i hi => ?_, fun i hi => ?_, fun i hi hq => ?_, fun j m hj hm => ?_, fun x hx => ?_, L.gl⟩
  all_goals first | rw [hl] at hi | rw [hl] at hj hm | skip
  · rw [hsame LNode.clock (fun _ _ _ => rfl)]; exact L.c i hi
  · rw [hsame LNode.round (fun _ _ _ => rfl)]; exact L.r i hi
  · rw [hsame LNode.till (fun _ _ _ => rfl)]; exact L.t i hi
  · rw [cv_set (by rw [L.lw]; exact hk), hN]
    by_cases h : i = k
    · rw [if_pos h, if_pos h]
    · rw [if_neg h, if_neg h]; exact L.w i hi
  · rw [cv_set (by rw [L.lp]; exact hk), hN]
    by_cases h : i = k
    · rw [if_pos h, if_pos h, L.c k hk, hnd]
    · rw [if_neg h, if_neg h]; exact L.p i hi
  · rw [hsame LNode.began (fun _ _ _ => rfl)]
    obtain ⟨q, hq, h1, h2⟩ := hq
    rw [hsame LNode.round (fun _ _ _ => rfl)] at h2
    rw [hff] at hq
    rcases List.mem_append.1 hq with hq | hq
    · exact L.b i hi ⟨q, hfl q hq, h1, h2⟩
    · simp only [List.mem_singleton] at hq
      subst hq
      refine L.b i hi ⟨p, hp, ?_, h2⟩
      unfold ownerP at h1 ⊢
      rw [ha]
      exact h1
  · rw [hsame LNode.round (fun _ _ _ => rfl), hsame LNode.granted (fun _ _ _ => rfl)]; exact L.g j m hj hm
  · rw [hsame LNode.round (fun _ _ _ => rfl), hl]; exact L.go x hx
/-- An answer comes, of the round. -/
theorem LR.answered (L : LR N f C R B T W P G) {p : LPkt} {k q : Nat} (hk : k < f.l.length) (hto : p.to = k) (hfr : p.from_ = q) (hr : p.round = f.l[k].round) {fl : List LPkt} (hfl : ∀ q ∈ fl, q ∈ f.fl) {till : Int} {T' : List Int} (hlt : T'.length = f.l.length) (ht : ∀ i, cv T' i = if i = k then till else cv T i) :
    LR (N + 1) ⟨f.len, f.skew, f.l.set k { f.l[k] with granted := f.l[k].granted ||| 2 ^ q, till := till }, fl⟩ C R B T' W P (G ++ [⟨p.from_, p.to, p.round⟩]) := by
  have hN := nd_set hk { f.l[k] with granted := f.l[k].granted ||| 2 ^ q, till := till } fl
  have hnd : f.nd k = f.l[k] := nd_get hk
  have hl : (⟨f.len, f.skew, f.l.set k { f.l[k] with granted := f.l[k].granted ||| 2 ^ q, till := till }, fl⟩ : LF).l.length = f.l.length := List.length_set
  generalize hf : (⟨f.len, f.skew, f.l.set k { f.l[k] with granted := f.l[k].granted ||| 2 ^ q, till := till }, fl⟩ : LF) = f' at hN hl ⊢
  have hff : f'.fl = fl := by rw [← hf]
  have hsame : ∀ {α : Type} (q : LNode → α), (∀ (x : LNode) (u : Nat) (v : Int), q { x with granted := u, till := v } = q x) → ∀ i, q (f'.nd i) = q (f.nd i) := fun q hq i => by
    rw [hN]
    split
    · rename_i h; subst h; rw [hnd, hq]
    · rfl
  refine ⟨by rw [hl]; exact L.lc, by rw [hl]; exact L.lr, by rw [hl]; exact L.lb, by rw [hl]; exact hlt, by rw [hl]; exact L.lw, by rw [hl]; exact L.lp, fun i hi => ?_, fun i hi => ?_, fun i hi => ?_, fun i hi => ?_, fun i hi => ?_, fun i hi hq => ?_, fun j m hj hm => ?_, fun x hx => ?_, ?_⟩
  all_goals first | rw [hl] at hi | rw [hl] at hj hm | skip
  · rw [hsame LNode.clock (fun _ _ _ => rfl)]; exact L.c i hi
  · rw [hsame LNode.round (fun _ _ _ => rfl)]; exact L.r i hi
  · rw [ht, hN]
    by_cases h : i = k
    · rw [if_pos h, if_pos h]
    · rw [if_neg h, if_neg h]; exact L.t i hi
  · rw [hsame LNode.whom (fun _ _ _ => rfl)]; exact L.w i hi
  · rw [hsame LNode.until_ (fun _ _ _ => rfl)]; exact L.p i hi
  · rw [hsame LNode.began (fun _ _ _ => rfl)]
    obtain ⟨z, hz, h1, h2⟩ := hq
    rw [hsame LNode.round (fun _ _ _ => rfl)] at h2
    rw [hff] at hz
    exact L.b i hi ⟨z, hfl z hz, h1, h2⟩
  · rw [hsame LNode.round (fun _ _ _ => rfl), hN]
    have hg := L.g j m hj hm
    by_cases h : m = k
    · subst h
      rw [if_pos rfl]
      show (f.l[m].granted ||| 2 ^ q).testBit j = true ↔ _
      rw [Nat.testBit_or, Bool.or_eq_true, Nat.testBit_two_pow, decide_eq_true_iff]
      rw [hnd] at hg ⊢
      rw [hg]
      constructor
      · rintro (⟨x, hx, h3⟩ | rfl)
        · exact ⟨x, List.mem_append_left _ hx, h3⟩
        · exact ⟨_, List.mem_append_right _ (List.mem_singleton_self _), hfr, hto, hr⟩
      · rintro ⟨x, hx, h3, h4, h5⟩
        rcases List.mem_append.1 hx with hx | hx
        · exact .inl ⟨x, hx, h3, h4, h5⟩
        · simp only [List.mem_singleton] at hx
          subst hx
          have h3 : p.from_ = j := h3
          exact .inr (by omega)
    · rw [if_neg h, hg]
      constructor
      · rintro ⟨x, hx, h3⟩
        exact ⟨x, List.mem_append_left _ hx, h3⟩
      · rintro ⟨x, hx, h3, h4, h5⟩
        rcases List.mem_append.1 hx with hx | hx
        · exact ⟨x, hx, h3, h4, h5⟩
        · simp only [List.mem_singleton] at hx
          subst hx
          have h4 : p.to = m := h4
          exact absurd (by omega) h
  · rw [hsame LNode.round (fun _ _ _ => rfl), hl]
    rcases List.mem_append.1 hx with hx | hx
    · exact L.go x hx
    · simp only [List.mem_singleton] at hx
      subst hx
      show 0 ≤ p.to ∧ p.to < _ ∧ p.round ≤ (f.nd p.to.toNat).round
      rw [hto, Int.toNat_natCast, hnd]
      exact ⟨by omega, by omega, by omega⟩
  · have := L.gl
    rw [List.length_append]
    show ((G.length + 1 : Nat) : Int) ≤ N + 1
    omega
/-! ## How many granted -/
def anyG (G : List LG) (to rd : Int) (i : Nat) : Bool := G.any fun x => x.from_ == (i : Int) && (x.to == to && x.round == rd)
def gsum (G : List LG) (to rd : Int) : Nat → Nat
  | 0 => 0
  | i + 1 => gsum G to rd i + if anyG G to rd i = true then 1 else 0
def bsum (x : Nat) : Nat → Nat
  | 0 => 0
  | i + 1 => bsum x i + if x.testBit i = true then 1 else 0
theorem bsum_pop : ∀ n : Fin 8, ∀ x : Fin 128, x.val < 2 ^ n.val → bsum x.val n.val = popN 7 x.val := by decide +kernel
theorem gsum_le (G : List LG) (to rd : Int) : ∀ i, gsum G to rd i ≤ i
  | 0 => Nat.le_refl _
  | i + 1 => by
    have := gsum_le G to rd i
    unfold gsum
    split <;> omega
theorem gsum_eq (G : List LG) (to rd : Int) (x : Nat) : ∀ n, (∀ i, i < n → (anyG G to rd i = true ↔ x.testBit i = true)) → gsum G to rd n = bsum x n
  | 0, _ => rfl
  | n + 1, h => by
    unfold gsum bsum
    rw [gsum_eq G to rd x n fun i hi => h i (by omega)]
    by_cases hb : x.testBit n = true
    · rw [if_pos hb, if_pos ((h n (by omega)).2 hb)]
    · rw [if_neg hb, if_neg fun ha => hb ((h n (by omega)).1 ha)]
theorem anyG_iff {G : List LG} {to rd : Int} {i : Nat} : anyG G to rd i = true ↔ ∃ x ∈ G, x.from_ = (i : Int) ∧ x.to = to ∧ x.round = rd := by
  unfold anyG
  rw [List.any_eq_true]
  constructor
  · rintro ⟨x, hx, h⟩
    rw [Bool.and_eq_true_iff, Bool.and_eq_true_iff, beq_iff_eq, beq_iff_eq, beq_iff_eq] at h
    exact ⟨x, hx, h⟩
  · rintro ⟨x, hx, h⟩
    refine ⟨x, hx, ?_⟩
    rw [Bool.and_eq_true_iff, Bool.and_eq_true_iff, beq_iff_eq, beq_iff_eq, beq_iff_eq]
    exact h
/-- The document's count is the program's. -/
theorem gsum_pop {o : Nat → Int} (L : LR N f C R B T W P G) (I : LInv f o) (ho : LOk N f) {p : LPkt} {k q : Nat} (hk : k < f.l.length) (hto : p.to = k) (hfr : p.from_ = q) (hq : q < f.l.length) (hr : p.round = f.l[k].round) :
    gsum (G ++ [⟨p.from_, p.to, p.round⟩]) p.to p.round f.l.length = popN 7 (f.l[k].granted ||| 2 ^ q) := by
  have h7 := ho.n7
  have hnd : f.nd k = f.l[k] := nd_get hk
  have hlt : f.l[k].granted ||| 2 ^ q < 2 ^ f.l.length := by
    refine Nat.lt_pow_two_of_testBit _ fun i hi => ?_
    rw [Nat.testBit_or, Nat.testBit_two_pow]
    have h1 : f.l[k].granted.testBit i = false := by
      cases hb : f.l[k].granted.testBit i with
      | false => rfl
      | true =>
        have := I.gb k i hk (by rw [hnd]; exact hb)
        omega
    rw [h1, decide_eq_false (by omega)]; rfl
  have h128 : f.l[k].granted ||| 2 ^ q < 128 := Nat.lt_of_lt_of_le hlt (Nat.pow_le_pow_right (by decide) h7)
  rw [← bsum_pop ⟨f.l.length, by omega⟩ ⟨_, h128⟩ hlt]
  refine gsum_eq _ _ _ _ _ fun i hi => ?_
  have hg := L.g i k hi hk
  rw [hnd] at hg
  rw [anyG_iff, Nat.testBit_or, Bool.or_eq_true, Nat.testBit_two_pow, decide_eq_true_iff, hg]
  constructor
  · rintro ⟨x, hx, h3, h4, h5⟩
    rcases List.mem_append.1 hx with hx | hx
    · exact .inl ⟨x, hx, h3, by omega, by omega⟩
    · simp only [List.mem_singleton] at hx
      subst hx
      have h3 : p.from_ = i := h3
      exact .inr (by omega)
  · rintro (⟨x, hx, h3, h4, h5⟩ | rfl)
    · exact ⟨x, List.mem_append_left _ hx, h3, by omega, by omega⟩
    · exact ⟨_, List.mem_append_right _ (List.mem_singleton_self _), hfr, rfl, rfl⟩
end
end Go.Proofs.Ytegbnmaglkpkjaa
