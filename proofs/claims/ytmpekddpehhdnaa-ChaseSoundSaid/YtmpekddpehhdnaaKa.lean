/-
  Layer 14 (chase): the plain field.
-/
import Derived.Test.YtmpekddpehhdnaaRh
namespace Go.Proofs.Ytmpekddpehhdnaa
open Go

/-! ## Sorted rows of numbers -/
def SrtI (l : List Int) : Prop := l.Pairwise (· < ·)
structure CutI (l : List Int) (x : Int) (i : Nat) : Prop where
  le : i ≤ l.length
  lo : ∀ j, (hj : j < l.length) → j < i → l[j] < x
  hi : ∀ j, (hj : j < l.length) → i ≤ j → x ≤ l[j]
theorem srtI_lt {l : List Int} (h : SrtI l) {i j : Nat} (hij : i < j) (hj : j < l.length) : l[i] < l[j] := List.pairwise_iff_getElem.1 h i j (by omega) hj hij
theorem CutI.uniq {l : List Int} {x : Int} {i j : Nat} (h1 : CutI l x i) (h2 : CutI l x j) : i = j := by
  rcases Nat.lt_trichotomy i j with h | h | h
  · have a := h2.lo i (by have := h2.le; omega) h
    have b := h1.hi i (by have := h2.le; omega) (Nat.le_refl _)
    omega
  · exact h
  · have a := h1.lo j (by have := h1.le; omega) h
    have b := h2.hi j (by have := h1.le; omega) (Nat.le_refl _)
    omega
def loI (l : List Int) (x : Int) : Nat := l.countP fun r => decide (r < x)
theorem loI_cut : ∀ {l : List Int} (_ : SrtI l) (x : Int), CutI l x (loI l x)
  | [], _, x => ⟨Nat.le_refl _, fun j hj => absurd hj (Nat.not_lt_zero _), fun j hj => absurd hj (Nat.not_lt_zero _)⟩
  | a :: l, h, x => by
    obtain ⟨h1, h2⟩ := List.pairwise_cons.1 h
    have ih := loI_cut h2 x
    by_cases ha : a < x
    · have e : loI (a :: l) x = loI l x + 1 := by unfold loI; rw [List.countP_cons_of_pos (by simpa using ha)]
      rw [e]
      refine ⟨by have := ih.le; simp only [List.length_cons]; omega, fun j hj hji => ?_, fun j hj hji => ?_⟩
      · cases j with
        | zero => exact ha
        | succ j => exact ih.lo j (by simpa using hj) (by omega)
      · cases j with
        | zero => omega
        | succ j => exact ih.hi j (by simpa using hj) (by omega)
    · have e : loI (a :: l) x = 0 := by
        unfold loI
        rw [List.countP_cons_of_neg (by simpa using ha), List.countP_eq_zero]
        intro r hr
        have := h1 r hr
        simp; omega
      rw [e]
      refine ⟨Nat.zero_le _, fun j _ hji => absurd hji (Nat.not_lt_zero _), fun j hj _ => ?_⟩
      cases j with
      | zero => show x ≤ a; omega
      | succ j =>
        have := h1 _ (List.getElem_mem (show j < l.length by simpa using hj))
        show x ≤ l[j]'(by simpa using hj)
        omega
theorem loI_le {l : List Int} (h : SrtI l) (x : Int) : loI l x ≤ l.length := (loI_cut h x).le
theorem mem_loI {l : List Int} (h : SrtI l) {x : Int} : x ∈ l ↔ ∃ hk : loI l x < l.length, l[loI l x] = x := by
  have c := loI_cut h x
  constructor
  · intro hm
    obtain ⟨j, hj, e⟩ := List.getElem_of_mem hm
    have : loI l x = j := by
      rcases Nat.lt_trichotomy j (loI l x) with hlt | he | hgt
      · have := c.lo j hj hlt; omega
      · exact he.symm
      · have := srtI_lt h hgt hj
        have := c.hi (loI l x) (by omega) (Nat.le_refl _)
        omega
    subst this
    exact ⟨hj, e⟩
  · rintro ⟨hk, e⟩
    rw [← e]; exact List.getElem_mem hk
def putI (l : List Int) (x : Int) : List Int := l.take (loI l x) ++ x :: l.drop (loI l x)
def insI (l : List Int) (x : Int) : List Int := if x ∈ l then l else putI l x
theorem mem_putI {l : List Int} {x y : Int} : y ∈ putI l x ↔ y = x ∨ y ∈ l := by
  unfold putI
  rw [List.mem_append, List.mem_cons]
  constructor
  · rintro (h | h | h)
    · exact .inr (List.mem_of_mem_take h)
    · exact .inl h
    · exact .inr (List.mem_of_mem_drop h)
  · rintro (h | h)
    · exact .inr (.inl h)
    · rw [← List.take_append_drop (loI l x) l] at h
      rcases List.mem_append.1 h with h | h
      · exact .inl h
      · exact .inr (.inr h)
theorem mem_insI {l : List Int} {x y : Int} : y ∈ insI l x ↔ y = x ∨ y ∈ l := by
  unfold insI
  split
  · rename_i h
    exact ⟨.inr, fun h2 => by rcases h2 with rfl | h2; exact h; exact h2⟩
  · exact mem_putI
theorem mid_srt {a b : List Int} {x : Int} (ha : SrtI a) (hb : SrtI b) (h1 : ∀ y ∈ a, y < x) (h2 : ∀ y ∈ b, x < y) : SrtI (a ++ x :: b) := by
  unfold SrtI
  rw [List.pairwise_append]
  refine ⟨ha, List.pairwise_cons.2 ⟨h2, hb⟩, fun y hy z hz => ?_⟩
  rcases List.mem_cons.1 hz with rfl | hz
  · exact h1 y hy
  · have := h1 y hy; have := h2 z hz; omega
theorem putI_srt {l : List Int} (h : SrtI l) {x : Int} (hx : x ∉ l) : SrtI (putI l x) := by
  have c := loI_cut h x
  refine mid_srt (h.sublist (List.take_sublist ..)) (h.sublist (List.drop_sublist ..)) (fun y hy => ?_) fun y hy => ?_
  · obtain ⟨j, hj, rfl⟩ := List.getElem_of_mem hy
    rw [List.length_take] at hj
    rw [List.getElem_take]
    exact c.lo j (by omega) (by omega)
  · obtain ⟨j, hj, rfl⟩ := List.getElem_of_mem hy
    rw [List.length_drop] at hj
    rw [List.getElem_drop]
    have h1 := c.hi (loI l x + j) (by omega) (by omega)
    have h2 : x ≠ l[loI l x + j] := fun e => hx (by rw [e]; exact List.getElem_mem _)
    omega
theorem insI_srt {l : List Int} (h : SrtI l) (x : Int) : SrtI (insI l x) := by
  unfold insI
  split
  · exact h
  · rename_i hx; exact putI_srt h hx
theorem putI_len (l : List Int) (x : Int) (h : SrtI l) : (putI l x).length = l.length + 1 := by
  have := loI_le h x
  unfold putI
  rw [List.length_append, List.length_take, List.length_cons, List.length_drop]; omega
theorem insI_len {l : List Int} (h : SrtI l) (x : Int) : l.length ≤ (insI l x).length ∧ (insI l x).length ≤ l.length + 1 := by
  unfold insI
  split
  · omega
  · rw [putI_len l x h]; omega
theorem srtI_ext : ∀ {a b : List Int}, SrtI a → SrtI b → (∀ x, x ∈ a ↔ x ∈ b) → a = b
  | [], [], _, _, _ => rfl
  | [], y :: b, _, _, h => by have := (h y).2 (List.mem_cons_self ..); cases this
  | x :: a, [], _, _, h => by have := (h x).1 (List.mem_cons_self ..); cases this
  | x :: a, y :: b, ha, hb, h => by
    obtain ⟨a1, a2⟩ := List.pairwise_cons.1 ha
    obtain ⟨b1, b2⟩ := List.pairwise_cons.1 hb
    have hxy : x = y := by
      rcases List.mem_cons.1 ((h x).1 (List.mem_cons_self ..)) with e | e
      · exact e
      · rcases List.mem_cons.1 ((h y).2 (List.mem_cons_self ..)) with e2 | e2
        · exact e2.symm
        · have := b1 x e; have := a1 y e2; omega
    subst hxy
    congr 1
    refine srtI_ext a2 b2 fun z => ?_
    constructor
    · intro hz
      rcases List.mem_cons.1 ((h z).1 (List.mem_cons_of_mem _ hz)) with e | e
      · subst e; have := a1 z hz; omega
      · exact e
    · intro hz
      rcases List.mem_cons.1 ((h z).2 (List.mem_cons_of_mem _ hz)) with e | e
      · subst e; have := b1 z hz; omega
      · exact e
theorem srtI_nodup {l : List Int} (h : SrtI l) : l.Nodup := h.imp fun h => by omega
theorem pigeon : ∀ (l S : List Int), l.Nodup → (∀ x ∈ l, x ∈ S) → l.length ≤ S.length
  | [], _, _, _ => Nat.zero_le _
  | a :: l, S, hn, hs => by
    obtain ⟨h1, h2⟩ := List.nodup_cons.1 hn
    have ha := hs a (List.mem_cons_self ..)
    have := pigeon l (S.erase a) h2 fun x hx => (List.mem_erase_of_ne fun e => h1 (by rw [← e]; exact hx)).2 (hs x (List.mem_cons_of_mem _ hx))
    rw [List.length_erase_of_mem ha] at this
    have : 0 < S.length := List.length_pos_of_mem ha
    rw [List.length_cons]; omega
/-! ## The field -/
structure CN where
  id : Int
  stamp : Int
  site : Int
  round : Int
  to : List Int
structure CP where
  start : Int
  stamp : Int
  round : Int
  at_ : Int
structure CF where
  N : List CN
  fl : List CP
  vs : List Int
  seen : Int → Int → Int
def hasN (N : List CN) (x : Int) : Prop := ∃ n ∈ N, n.id = x
instance (N : List CN) (x : Int) : Decidable (hasN N x) := by unfold hasN; infer_instance
def nd (N : List CN) (x : Int) : CN := (N.find? fun n => n.id == x).getD ⟨0, 0, 0, 0, []⟩
def UniqN (N : List CN) : Prop := N.Pairwise fun a b => a.id ≠ b.id
def updN (N : List CN) (x : Int) (f : CN → CN) : List CN := N.map fun n => if n.id = x then f n else n
theorem nd_eq : ∀ {N : List CN} (_ : UniqN N) {n : CN}, n ∈ N → nd N n.id = n
  | a :: N, h, n, hn => by
    obtain ⟨h1, h2⟩ := List.pairwise_cons.1 h
    unfold nd
    rw [List.find?_cons]
    rcases List.mem_cons.1 hn with rfl | hn
    · rw [beq_self_eq_true]; rfl
    · rw [show (a.id == n.id) = false from beq_eq_false_iff_ne.2 (h1 n hn)]
      exact nd_eq h2 hn
theorem nd_mem {N : List CN} {x : Int} (h : hasN N x) : nd N x ∈ N ∧ (nd N x).id = x := by
  unfold nd
  cases hf : N.find? fun n => n.id == x with
  | none =>
    obtain ⟨n, hn, e⟩ := h
    have := List.find?_eq_none.1 hf n hn
    simp [e] at this
  | some n => exact ⟨List.mem_of_find?_eq_some hf, by simpa using List.find?_some hf⟩
theorem nd_none {N : List CN} {x : Int} (h : ¬ hasN N x) : nd N x = ⟨0, 0, 0, 0, []⟩ := by
  unfold nd
  rw [List.find?_eq_none.2 fun n hn => by simpa using fun e => h ⟨n, hn, e⟩]; rfl
theorem updN_len (N : List CN) (x : Int) (f : CN → CN) : (updN N x f).length = N.length := List.length_map _
theorem hasN_upd {N : List CN} {x : Int} {f : CN → CN} (hf : ∀ n, (f n).id = n.id) {y : Int} : hasN (updN N x f) y ↔ hasN N y := by
  unfold hasN updN
  constructor
  · rintro ⟨n, hn, e⟩
    obtain ⟨m, hm, rfl⟩ := List.mem_map.1 hn
    refine ⟨m, hm, ?_⟩
    split at e
    · rw [← e, hf]
    · exact e
  · rintro ⟨n, hn, e⟩
    refine ⟨_, List.mem_map_of_mem hn, ?_⟩
    split
    · rw [hf]; exact e
    · exact e
theorem uniq_upd {N : List CN} {x : Int} {f : CN → CN} (hf : ∀ n, (f n).id = n.id) (h : UniqN N) : UniqN (updN N x f) := by
  unfold UniqN updN
  rw [List.pairwise_map]
  refine h.imp fun {a b} hab => ?_
  split <;> split <;> (try simp only [hf]) <;> exact hab
theorem nd_upd {N : List CN} {x : Int} {f : CN → CN} (hf : ∀ n, (f n).id = n.id) (h : UniqN N) (hx : hasN N x) (y : Int) : nd (updN N x f) y = if y = x then f (nd N x) else nd N y := by
  by_cases hy : hasN N y
  · obtain ⟨h1, h2⟩ := nd_mem hy
    have hm : (if (nd N y).id = x then f (nd N y) else nd N y) ∈ updN N x f := List.mem_map_of_mem h1
    have e := nd_eq (uniq_upd hf h) hm
    rw [h2] at e
    by_cases hyx : y = x
    · subst hyx
      rw [if_pos rfl, hf, h2] at e
      rw [if_pos rfl]; exact e
    · rw [if_neg hyx, h2] at e
      rw [if_neg hyx]; exact e
  · have hyx : y ≠ x := fun e => hy (e ▸ hx)
    rw [if_neg hyx, nd_none hy, nd_none fun h2 => hy ((hasN_upd hf).1 h2)]
theorem updN_set {N : List CN} (h : UniqN N) {k : Nat} (hk : k < N.length) (f : CN → CN) : updN N N[k].id f = N.set k (f N[k]) := by
  refine List.ext_getElem (by rw [updN_len, List.length_set]) fun i h1 h2 => ?_
  rw [updN_len] at h1
  rw [List.getElem_set]
  show (N.map _)[i]'(by simpa using h1) = _
  rw [List.getElem_map]
  by_cases e : k = i
  · subst e; rw [if_pos rfl, if_pos rfl]
  · rw [if_neg e, if_neg]
    intro e2
    rcases Nat.lt_or_gt_of_ne e with hlt | hgt
    · exact List.pairwise_iff_getElem.1 h k i hk h1 hlt e2.symm
    · exact List.pairwise_iff_getElem.1 h i k h1 hk hgt e2
theorem hasN_app {N : List CN} {n : CN} {y : Int} : hasN (N ++ [n]) y ↔ hasN N y ∨ n.id = y := by
  unfold hasN
  constructor
  · rintro ⟨m, hm, e⟩
    rcases List.mem_append.1 hm with hm | hm
    · exact .inl ⟨m, hm, e⟩
    · rw [List.mem_singleton.1 hm] at e; exact .inr e
  · rintro (⟨m, hm, e⟩ | e)
    · exact ⟨m, List.mem_append_left _ hm, e⟩
    · exact ⟨n, List.mem_append_right _ (List.mem_cons_self ..), e⟩
theorem uniq_app {N : List CN} {n : CN} (h : UniqN N) (hn : ¬ hasN N n.id) : UniqN (N ++ [n]) := by
  unfold UniqN
  rw [List.pairwise_append]
  refine ⟨h, List.pairwise_singleton .., fun a ha b hb e => ?_⟩
  rw [List.mem_singleton.1 hb] at e
  exact hn ⟨a, ha, e⟩
theorem nd_app {N : List CN} {n : CN} (h : UniqN N) (hn : ¬ hasN N n.id) (y : Int) : nd (N ++ [n]) y = if y = n.id then n else nd N y := by
  by_cases hy : hasN (N ++ [n]) y
  · rcases hasN_app.1 hy with h1 | h1
    · obtain ⟨h2, h3⟩ := nd_mem h1
      have hne : y ≠ n.id := fun e => hn (e ▸ h1)
      have := nd_eq (uniq_app h hn) (List.mem_append_left [n] h2)
      rw [h3] at this
      rw [if_neg hne]; exact this
    · subst h1
      rw [if_pos rfl]
      exact nd_eq (uniq_app h hn) (List.mem_append_right N (List.mem_cons_self ..))
  · have h1 : ¬ hasN N y := fun h2 => hy (hasN_app.2 (.inl h2))
    have hne : y ≠ n.id := fun e => hy (hasN_app.2 (.inr e.symm))
    rw [if_neg hne, nd_none h1, nd_none hy]
def okTo (N : List CN) (p : CP) (t : Int) : Prop := t = p.start ∨ (nd N t).stamp < p.stamp ∨ ((nd N t).stamp = p.stamp ∧ t < p.start)
instance (N : List CN) (p : CP) (t : Int) : Decidable (okTo N p t) := by unfold okTo; infer_instance
def eld (N : List CN) (a b : Int) : Prop := (nd N a).stamp < (nd N b).stamp ∨ ((nd N a).stamp = (nd N b).stamp ∧ a < b)
instance (N : List CN) (a b : Int) : Decidable (eld N a b) := by unfold eld; infer_instance
def sentL (N : List CN) (l : List Int) (p : CP) : List CP := (l.filter fun t => decide (okTo N p t)).map fun t => { p with at_ := t }
def kSend (C : CF) (l : List Int) (p : CP) : CF := { C with fl := C.fl ++ sentL C.N l p }
def kNode (s : Nat) (C : CF) (id stamp site : Int) : CF × Int :=
  if id < 0 ∨ stamp < 0 ∨ stamp > 1099511627776 ∨ site < 0 ∨ site ≥ s then (C, 1)
  else if hasN C.N id then (C, 8) else if C.N.length ≥ 64 then (C, 7) else ({ C with N := C.N ++ [⟨id, stamp, site, 0, []⟩] }, 0)
def kEdge (C : CF) (f t : Int) : CF × Int :=
  if f = t then (C, 1) else if ¬ (hasN C.N f ∧ hasN C.N t) then (C, 6) else ({ C with N := updN C.N f fun n => { n with to := insI n.to t } }, 0)
def kBegin (C : CF) (id : Int) : CF × Int × Int :=
  if ¬ hasN C.N id then (C, 0, 6)
  else (kSend { C with N := updN C.N id fun n => { n with round := n.round + 1 } } (nd C.N id).to ⟨id, (nd C.N id).stamp, (nd C.N id).round + 1, 0⟩, (nd C.N id).round + 1, 0)
def kTake (C : CF) (k : Nat) : CF := { C with fl := C.fl.take k ++ C.fl.drop (k + 1) }
def kDlv (C : CF) (p : CP) : CF × Int × Bool :=
  if p.at_ = p.start then ({ C with vs := insI C.vs p.start }, p.start, true)
  else if C.seen p.start p.at_ < p.round then (kSend { C with seen := fun x a => if x = p.start ∧ a = p.at_ then p.round else C.seen x a } (nd C.N p.at_).to p, 0, false)
  else (C, 0, false)
def inFl (C : CF) (i : Int) : Prop := 0 ≤ i ∧ i < C.fl.length
instance (C : CF) (i : Int) : Decidable (inFl C i) := by unfold inFl; infer_instance
def pAt (C : CF) (i : Int) : CP := (C.fl[i.toNat]?).getD ⟨0, 0, 0, 0⟩
def kDeliver (C : CF) (i : Int) : CF × Int × Bool × Int :=
  if inFl C i then ((kDlv (kTake C i.toNat) (pAt C i)).1, (kDlv (kTake C i.toNat) (pAt C i)).2.1, (kDlv (kTake C i.toNat) (pAt C i)).2.2, 0) else (C, 0, false, 6)
def kDrop (C : CF) (i : Int) : CF × Int := if inFl C i then (kTake C i.toNat, 0) else (C, 6)
def kDouble (C : CF) (i : Int) : CF × Int := if inFl C i then ({ C with fl := C.fl ++ [pAt C i] }, 0) else (C, 6)
def kNew : CF := ⟨[], [], [], fun _ _ => 0⟩
structure KAct where
  kind : Int
  a : Int
  b : Int
  site : Int
def kAct (s : Nat) (C : CF) (a : KAct) : CF :=
  if a.kind % 8 = 0 then (kNode s C a.a a.b a.site).1 else if a.kind % 8 = 1 ∨ a.kind % 8 = 2 then (kEdge C a.a a.b).1
  else if a.kind % 8 = 3 then (kBegin C a.a).1 else if a.kind % 8 = 6 then (kDrop C a.a).1 else if a.kind % 8 = 7 then (kDouble C a.a).1 else (kDeliver C a.a).1
/-! ## What always holds -/
structure FlOk (C : CF) (p : CP) : Prop where
  st : hasN C.N p.start
  at_ : hasN C.N p.at_
  stamp : p.stamp = (nd C.N p.start).stamp
  r1 : 1 ≤ p.round
  r2 : p.round ≤ (nd C.N p.start).round
  el : p.at_ = p.start ∨ eld C.N p.at_ p.start
structure NdOk (s k : Nat) (N : List CN) (n : CN) : Prop where
  id : 0 ≤ n.id
  id1 : n.id ≤ 9223372036854775807
  st0 : 0 ≤ n.stamp
  st1 : n.stamp ≤ 1099511627776
  si0 : 0 ≤ n.site
  si1 : n.site < s
  r0 : 0 ≤ n.round
  r1 : n.round ≤ k
  srt : SrtI n.to
  to : ∀ t ∈ n.to, hasN N t ∧ t ≠ n.id
structure COk (s k : Nat) (C : CF) : Prop where
  len : C.N.length ≤ 64
  uniq : UniqN C.N
  ns : ∀ n ∈ C.N, NdOk s k C.N n
  fls : ∀ p ∈ C.fl, FlOk C p
  seen : ∀ x a, 0 ≤ C.seen x a ∧ C.seen x a ≤ (nd C.N x).round ∧ (¬ hasN C.N a → C.seen x a = 0)
  vs : SrtI C.vs ∧ ∀ v ∈ C.vs, hasN C.N v
theorem NdOk.mono {s k : Nat} {N N' : List CN} {n : CN} (h : NdOk s k N n) (hN : ∀ y, hasN N y → hasN N' y) : NdOk s (k + 1) N' n :=
  ⟨h.id, h.id1, h.st0, h.st1, h.si0, h.si1, h.r0, by have := h.r1; omega, h.srt, fun t ht => ⟨hN _ (h.to t ht).1, (h.to t ht).2⟩⟩
theorem COk.tolen {s k : Nat} {C : CF} (ho : COk s k C) {n : CN} (hn : n ∈ C.N) : n.to.length ≤ 64 := by
  have h := ho.ns n hn
  have := pigeon n.to (C.N.map (·.id)) (srtI_nodup h.srt) fun t ht => by
    obtain ⟨m, hm, e⟩ := (h.to t ht).1
    exact List.mem_map.2 ⟨m, hm, e⟩
  rw [List.length_map] at this
  have := ho.len
  omega
theorem COk.ndOk {s k : Nat} {C : CF} (ho : COk s k C) {x : Int} (hx : hasN C.N x) : NdOk s k C.N (nd C.N x) := ho.ns _ (nd_mem hx).1
theorem COk.ndlen {s k : Nat} {C : CF} (ho : COk s k C) (x : Int) : (nd C.N x).to.length ≤ 64 := by
  by_cases hx : hasN C.N x
  · exact ho.tolen (nd_mem hx).1
  · rw [nd_none hx]; exact Nat.zero_le _
theorem new_cok (s : Nat) : COk s 0 kNew := ⟨Nat.zero_le _, List.Pairwise.nil, (fun n hn => by cases hn), (fun p hp => by cases hp), fun x a => ⟨Int.le_refl _, Int.le_refl _, fun _ => rfl⟩, List.Pairwise.nil, (fun v hv => by cases hv)⟩
/-- Nodes that go on: the same ones, or more; stamps stay; rounds and edges grow. -/
structure Grow (N N' : List CN) : Prop where
  has : ∀ y, hasN N y → hasN N' y
  stamp : ∀ y, hasN N y → (nd N' y).stamp = (nd N y).stamp
  round : ∀ y, (nd N y).round ≤ (nd N' y).round
  to : ∀ y, ∀ t ∈ (nd N y).to, t ∈ (nd N' y).to
theorem Grow.refl (N : List CN) : Grow N N := ⟨fun _ h => h, fun _ _ => rfl, fun _ => Int.le_refl _, fun _ _ h => h⟩
theorem Grow.trans {N N' N'' : List CN} (h1 : Grow N N') (h2 : Grow N' N'') : Grow N N'' :=
  ⟨fun y h => h2.has y (h1.has y h), fun y h => (h2.stamp y (h1.has y h)).trans (h1.stamp y h), fun y => Int.le_trans (h1.round y) (h2.round y), fun y t ht => h2.to y t (h1.to y t ht)⟩
theorem grow_upd {N : List CN} {x : Int} {f : CN → CN} (hf : ∀ n, (f n).id = n.id) (h : UniqN N) (hx : hasN N x) (h1 : ∀ n, (f n).stamp = n.stamp) (h2 : ∀ n, n.round ≤ (f n).round) (h3 : ∀ n, ∀ t ∈ n.to, t ∈ (f n).to) : Grow N (updN N x f) := by
  refine ⟨fun y hy => (hasN_upd hf).2 hy, fun y _ => ?_, fun y => ?_, fun y t ht => ?_⟩
  · rw [nd_upd hf h hx]
    split
    · rename_i e; subst e; exact h1 _
    · rfl
  · rw [nd_upd hf h hx]
    split
    · rename_i e; subst e; exact h2 _
    · exact Int.le_refl _
  · rw [nd_upd hf h hx]
    split
    · rename_i e; subst e; exact h3 _ t ht
    · exact ht
theorem grow_app {N : List CN} {n : CN} (h : UniqN N) (hn : ¬ hasN N n.id) (h0 : 0 ≤ n.round) : Grow N (N ++ [n]) := by
  refine ⟨fun y hy => hasN_app.2 (.inl hy), fun y hy => ?_, fun y => ?_, fun y t ht => ?_⟩
  · rw [nd_app h hn, if_neg (c := y = n.id) fun e => hn (e ▸ hy)]
  · rw [nd_app h hn]
    split
    · rename_i e; rw [nd_none (by rw [e]; exact hn)]; exact h0
    · exact Int.le_refl _
  · rw [nd_app h hn]
    split
    · rename_i e; rw [nd_none (by rw [e]; exact hn)] at ht; cases ht
    · exact ht
theorem Grow.eld {N N' : List CN} (h : Grow N N') {a b : Int} (ha : hasN N a) (hb : hasN N b) : eld N' a b ↔ eld N a b := by
  unfold Go.Proofs.Ytmpekddpehhdnaa.eld
  rw [h.stamp a ha, h.stamp b hb]
theorem FlOk.grow {C : CF} {p : CP} (hp : FlOk C p) {N' : List CN} (hg : Grow C.N N') {fl : List CP} {vs : List Int} {seen : Int → Int → Int} : FlOk ⟨N', fl, vs, seen⟩ p :=
  ⟨hg.has _ hp.st, hg.has _ hp.at_, hp.stamp.trans (hg.stamp _ hp.st).symm, hp.r1, Int.le_trans hp.r2 (hg.round _), hp.el.imp id fun h => (hg.eld hp.at_ hp.st).2 h⟩
theorem COk.mono {s k k' : Nat} {C : CF} (ho : COk s k C) (hk : k ≤ k') : COk s k' C :=
  ⟨ho.len, ho.uniq, fun n hn => ⟨(ho.ns n hn).id, (ho.ns n hn).id1, (ho.ns n hn).st0, (ho.ns n hn).st1, (ho.ns n hn).si0, (ho.ns n hn).si1, (ho.ns n hn).r0, by have := (ho.ns n hn).r1; omega, (ho.ns n hn).srt, (ho.ns n hn).to⟩, ho.fls, ho.seen, ho.vs⟩
theorem sent_ok {C : CF} {l : List Int} {p : CP} (hl : ∀ t ∈ l, hasN C.N t) (h1 : hasN C.N p.start) (h2 : p.stamp = (nd C.N p.start).stamp) (h3 : 1 ≤ p.round) (h4 : p.round ≤ (nd C.N p.start).round) : ∀ q ∈ sentL C.N l p, FlOk C q := by
  intro q hq
  obtain ⟨t, ht, rfl⟩ := List.mem_map.1 hq
  obtain ⟨h5, h6⟩ := List.mem_filter.1 ht
  have h6 := of_decide_eq_true h6
  refine ⟨h1, hl t h5, h2, h3, h4, ?_⟩
  rcases h6 with h6 | h6 | h6
  · exact .inl h6
  · exact .inr (.inl (by rw [← h2]; exact h6))
  · exact .inr (.inr ⟨by rw [← h2]; exact h6.1, h6.2⟩)
theorem COk.node {s k : Nat} {C : CF} (ho : COk s k C) {id : Int} (hid : id ≤ 9223372036854775807) (stamp site : Int) : COk s (k + 1) (kNode s C id stamp site).1 := by
  unfold kNode
  split
  · exact ho.mono (by omega)
  · rename_i hr
    split
    · exact ho.mono (by omega)
    · rename_i hn
      split
      · exact ho.mono (by omega)
      · rename_i hl
        have hg := grow_app (n := ⟨id, stamp, site, 0, []⟩) ho.uniq hn (Int.le_refl _)
        refine ⟨by show (C.N ++ [_]).length ≤ 64; rw [List.length_append, List.length_singleton]; omega, uniq_app ho.uniq hn, fun n hm => ?_, fun p hp => (ho.fls p hp).grow hg, fun x a => ⟨(ho.seen x a).1, Int.le_trans (ho.seen x a).2.1 (hg.round x), fun hn => (ho.seen x a).2.2 fun h => hn (hg.has a h)⟩, ho.vs.1, fun v hv => hg.has v (ho.vs.2 v hv)⟩
        rcases List.mem_append.1 hm with hm | hm
        · exact (ho.ns n hm).mono hg.has
        · rw [List.mem_singleton.1 hm]
          exact ⟨by show 0 ≤ id; omega, hid, by show 0 ≤ stamp; omega, by show stamp ≤ _; omega, by show 0 ≤ site; omega, by show site < _; omega, Int.le_refl _, by show (0 : Int) ≤ _; omega, List.Pairwise.nil, (fun t ht => by cases ht)⟩
theorem COk.edge {s k : Nat} {C : CF} (ho : COk s k C) (f t : Int) : COk s (k + 1) (kEdge C f t).1 := by
  unfold kEdge
  split
  · exact ho.mono (by omega)
  · rename_i hft
    split
    · exact ho.mono (by omega)
    · rename_i hn
      have hn : hasN C.N f ∧ hasN C.N t := Decidable.not_not.1 hn
      have hg : Grow C.N (updN C.N f fun n => { n with to := insI n.to t }) := grow_upd (fun _ => rfl) ho.uniq hn.1 (fun _ => rfl) (fun _ => Int.le_refl _) fun n y hy => mem_insI.2 (.inr hy)
      refine ⟨by show (updN ..).length ≤ 64; rw [updN_len]; exact ho.len, uniq_upd (fun _ => rfl) ho.uniq, fun n hm => ?_, fun p hp => (ho.fls p hp).grow hg, fun x a => ⟨(ho.seen x a).1, Int.le_trans (ho.seen x a).2.1 (hg.round x), fun hn => (ho.seen x a).2.2 fun h => hn (hg.has a h)⟩, ho.vs.1, fun v hv => hg.has v (ho.vs.2 v hv)⟩
      obtain ⟨m, hm2, rfl⟩ := List.mem_map.1 hm
      have h := (ho.ns m hm2).mono hg.has
      split
      · rename_i e
        refine ⟨h.id, h.id1, h.st0, h.st1, h.si0, h.si1, h.r0, h.r1, insI_srt h.srt t, fun y hy => ?_⟩
        rcases mem_insI.1 hy with rfl | hy
        · exact ⟨hg.has _ hn.2, fun e2 => hft (by rw [e2]; exact e.symm)⟩
        · exact h.to y hy
      · exact h
theorem COk.send {s k : Nat} {C : CF} (ho : COk s k C) {l : List Int} {p : CP} (hl : ∀ t ∈ l, hasN C.N t) (h1 : hasN C.N p.start) (h2 : p.stamp = (Go.Proofs.Ytmpekddpehhdnaa.nd C.N p.start).stamp) (h3 : 1 ≤ p.round) (h4 : p.round ≤ (Go.Proofs.Ytmpekddpehhdnaa.nd C.N p.start).round) : COk s k (kSend C l p) :=
  ⟨ho.len, ho.uniq, ho.ns, fun q hq => by
    rcases List.mem_append.1 hq with hq | hq
    · exact (ho.fls q hq).grow (.refl _)
    · exact (sent_ok hl h1 h2 h3 h4 q hq).grow (.refl _), ho.seen, ho.vs⟩
theorem grow_round {C : CF} {s k : Nat} (ho : COk s k C) {id : Int} (hx : hasN C.N id) : Grow C.N (updN C.N id fun n => { n with round := n.round + 1 }) :=
  grow_upd (fun _ => rfl) ho.uniq hx (fun _ => rfl) (fun _ => by show _ ≤ _ + 1; omega) fun n y hy => hy
theorem COk.roundUp {s k : Nat} {C : CF} (ho : COk s k C) {id : Int} (hx : hasN C.N id) : COk s (k + 1) { C with N := updN C.N id fun n => { n with round := n.round + 1 } } := by
  have hg := grow_round ho hx
  refine ⟨by show (updN ..).length ≤ 64; rw [updN_len]; exact ho.len, uniq_upd (fun _ => rfl) ho.uniq, fun n hm => ?_, fun p hp => (ho.fls p hp).grow hg, fun x a => ⟨(ho.seen x a).1, Int.le_trans (ho.seen x a).2.1 (hg.round x), fun hn => (ho.seen x a).2.2 fun h => hn (hg.has a h)⟩, ho.vs.1, fun v hv => hg.has v (ho.vs.2 v hv)⟩
  obtain ⟨m, hm2, rfl⟩ := List.mem_map.1 hm
  have h0 := ho.ns m hm2
  have h := h0.mono hg.has
  split
  · exact ⟨h.id, h.id1, h.st0, h.st1, h.si0, h.si1, by show 0 ≤ m.round + 1; have := h0.r0; omega, by show m.round + 1 ≤ _; have := h0.r1; omega, h.srt, h.to⟩
  · exact h
theorem COk.begin_ {s k : Nat} {C : CF} (ho : COk s k C) (id : Int) : COk s (k + 1) (kBegin C id).1 := by
  unfold kBegin
  split
  · exact ho.mono (by omega)
  · rename_i hx
    have hx : hasN C.N id := Decidable.not_not.1 hx
    have hg := grow_round ho hx
    have e := nd_upd (f := fun n => { n with round := n.round + 1 }) (fun _ => rfl) ho.uniq hx id
    rw [if_pos rfl] at e
    have h0 := ho.ndOk hx
    refine (ho.roundUp hx).send (fun t ht => hg.has t (h0.to t ht).1) (hg.has _ hx) ?_ ?_ ?_
    · show _ = (nd _ _).stamp
      rw [e]
    · show 1 ≤ (nd C.N id).round + 1
      have := h0.r0; omega
    · show _ ≤ (nd _ _).round
      rw [e]
      exact Int.le_refl _
theorem COk.take {s k : Nat} {C : CF} (ho : COk s k C) (j : Nat) : COk s k (kTake C j) :=
  ⟨ho.len, ho.uniq, ho.ns, fun q hq => by
    rcases List.mem_append.1 hq with hq | hq
    · exact (ho.fls q (List.mem_of_mem_take hq)).grow (.refl _)
    · exact (ho.fls q (List.mem_of_mem_drop hq)).grow (.refl _), ho.seen, ho.vs⟩
theorem COk.dlv {s k : Nat} {C : CF} (ho : COk s k C) {p : CP} (hp : FlOk C p) : COk s k (kDlv C p).1 := by
  unfold kDlv
  split
  · refine ⟨ho.len, ho.uniq, ho.ns, fun q hq => (ho.fls q hq).grow (.refl _), ho.seen, insI_srt ho.vs.1 _, fun v hv => ?_⟩
    rcases mem_insI.1 hv with rfl | hv
    · exact hp.st
    · exact ho.vs.2 v hv
  · split
    · refine COk.send (C := { C with seen := fun x a => if x = p.start ∧ a = p.at_ then p.round else C.seen x a }) ⟨ho.len, ho.uniq, ho.ns, fun q hq => (ho.fls q hq).grow (.refl _), fun x a => ?_, ho.vs⟩ (fun t ht => ((ho.ndOk hp.at_).to t ht).1) hp.st hp.stamp hp.r1 hp.r2
      show 0 ≤ (if x = p.start ∧ a = p.at_ then p.round else C.seen x a) ∧ (if x = p.start ∧ a = p.at_ then p.round else C.seen x a) ≤ (Go.Proofs.Ytmpekddpehhdnaa.nd C.N x).round ∧ (¬ hasN C.N a → (if x = p.start ∧ a = p.at_ then p.round else C.seen x a) = 0)
      split
      · rename_i e
        rw [e.1]
        exact ⟨by have := hp.r1; omega, hp.r2, fun hn => absurd (e.2 ▸ hp.at_) hn⟩
      · exact ho.seen x a
    · exact ho
theorem pAt_mem {C : CF} {i : Int} (h : inFl C i) : pAt C i ∈ C.fl ∧ ∃ j : Nat, i = j ∧ ∃ hj : j < C.fl.length, pAt C i = C.fl[j] := by
  obtain ⟨h1, h2⟩ := h
  have hj : i.toNat < C.fl.length := by omega
  unfold pAt
  rw [List.getElem?_eq_getElem hj]
  exact ⟨List.getElem_mem hj, i.toNat, by omega, hj, rfl⟩
theorem COk.deliver {s k : Nat} {C : CF} (ho : COk s k C) (i : Int) : COk s k (kDeliver C i).1 := by
  unfold kDeliver
  split
  · rename_i h
    exact (ho.take _).dlv ((ho.fls _ (pAt_mem h).1).grow (.refl _))
  · exact ho
theorem COk.drop {s k : Nat} {C : CF} (ho : COk s k C) (i : Int) : COk s k (kDrop C i).1 := by
  unfold kDrop
  split
  · exact ho.take _
  · exact ho
theorem COk.double {s k : Nat} {C : CF} (ho : COk s k C) (i : Int) : COk s k (kDouble C i).1 := by
  unfold kDouble
  split
  · rename_i h
    refine ⟨ho.len, ho.uniq, ho.ns, fun q hq => ?_, ho.seen, ho.vs⟩
    rcases List.mem_append.1 hq with hq | hq
    · exact (ho.fls q hq).grow (.refl _)
    · rw [List.mem_singleton.1 hq]; exact (ho.fls _ (pAt_mem h).1).grow (.refl _)
  · exact ho
theorem COk.act {s k : Nat} {C : CF} (ho : COk s k C) {a : KAct} (ha : a.a ≤ 9223372036854775807) : COk s (k + 1) (kAct s C a) := by
  unfold kAct
  split
  · exact ho.node ha _ _
  · split
    · exact ho.edge ..
    · split
      · exact ho.begin_ ..
      · split
        · exact (ho.drop _).mono (by omega)
        · split
          · exact (ho.double _).mono (by omega)
          · exact (ho.deliver _).mono (by omega)
/-- How many are under way. -/
theorem sent_len (N : List CN) (l : List Int) (p : CP) : (sentL N l p).length ≤ l.length := by
  unfold sentL
  rw [List.length_map]; exact List.length_filter_le ..
theorem dlv_len {s k : Nat} {C : CF} (ho : COk s k C) (p : CP) : (kDlv C p).1.fl.length ≤ C.fl.length + 64 := by
  unfold kDlv
  split
  · exact Nat.le_add_right _ _
  · split
    · have := sent_len C.N (nd C.N p.at_).to p
      have := ho.ndlen p.at_
      show (C.fl ++ _).length ≤ _
      rw [List.length_append]
      show _ + (sentL C.N (nd C.N p.at_).to p).length ≤ _
      omega
    · exact Nat.le_add_right _ _
theorem take_len (C : CF) (j : Nat) : (kTake C j).fl.length ≤ C.fl.length := by
  show (C.fl.take j ++ C.fl.drop (j + 1)).length ≤ _
  rw [List.length_append, List.length_take, List.length_drop]; omega
theorem deliver_len {s k : Nat} {C : CF} (ho : COk s k C) (i : Int) : (kDeliver C i).1.fl.length ≤ C.fl.length + 64 := by
  unfold kDeliver
  split
  · have h1 := dlv_len (ho.take i.toNat) (pAt C i)
    have h2 := take_len C i.toNat
    show (kDlv _ _).1.fl.length ≤ _
    omega
  · exact Nat.le_add_right _ _
theorem begin_len14 {s k : Nat} {C : CF} (ho : COk s k C) (id : Int) : (kBegin C id).1.fl.length ≤ C.fl.length + 64 := by
  unfold kBegin
  split
  · exact Nat.le_add_right _ _
  · show (C.fl ++ sentL (updN C.N id fun n => { n with round := n.round + 1 }) (nd C.N id).to ⟨id, (nd C.N id).stamp, (nd C.N id).round + 1, 0⟩).length ≤ _
    rw [List.length_append]
    have := sent_len (updN C.N id fun n => { n with round := n.round + 1 }) (nd C.N id).to ⟨id, (nd C.N id).stamp, (nd C.N id).round + 1, 0⟩
    have := ho.ndlen id
    omega
theorem act_len {s k : Nat} {C : CF} (ho : COk s k C) (a : KAct) : (kAct s C a).fl.length ≤ C.fl.length + 64 := by
  unfold kAct
  split
  · unfold kNode
    split
    · exact Nat.le_add_right _ _
    · split
      · exact Nat.le_add_right _ _
      · split <;> exact Nat.le_add_right _ _
  · split
    · unfold kEdge
      split
      · exact Nat.le_add_right _ _
      · split <;> exact Nat.le_add_right _ _
    · split
      · exact begin_len14 ho _
      · split
        · unfold kDrop
          split
          · have := take_len C a.a.toNat
            show (kTake _ _).fl.length ≤ _
            omega
          · exact Nat.le_add_right _ _
        · split
          · unfold kDouble
            split
            · show (C.fl ++ [_]).length ≤ _
              rw [List.length_append, List.length_singleton]; omega
            · exact Nat.le_add_right _ _
          · exact deliver_len ho _
end Go.Proofs.Ytmpekddpehhdnaa
