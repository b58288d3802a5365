/-
  A heap as a row of things that are known of it, each with blocks of its own: what one step turns leaves the others as they were.
-/
import Derived.Test.YtegbnmaglkpkjaaRf
namespace Go.Proofs.Ytegbnmaglkpkjaa
open Go

inductive Res where
  | blk (b : Nat) (t : TypeId) (cs : List Value)
  | own (s : Sl) (sz : Nat) (xs : List Value)
  | rd (s : Sl) (sz : Nat) (xs : List Value)
  | any (fp : Nat → Prop) (P : Heap → Prop) (st : ∀ h h' : Heap, h.size ≤ h'.size → (∀ g, fp g → g < h.size → h'[g]? = h[g]?) → P h → P h') (bd : ∀ h, P h → ∀ g, fp g → g < h.size)
def Res.fp : Res → Nat → Prop
  | .blk b _ _ => fun g => g = b
  | .own s _ _ => fun g => s.blk = some g
  | .rd s _ xs => fun g => 0 < xs.length ∧ s.blk = some g
  | .any fp _ _ _ => fp
def Res.ok : Res → Heap → Prop
  | .blk b t cs => fun h => Blk h b t cs
  | .own s sz xs => fun h => Own h sz s xs
  | .rd s sz xs => fun h => RdS h sz s xs
  | .any _ P _ _ => P
theorem Res.keep {h h' : Heap} : ∀ (r : Res), h.size ≤ h'.size → (∀ g, r.fp g → g < h.size → h'[g]? = h[g]?) → r.ok h → r.ok h'
  | .blk b t cs, _, hk, ho => Blk.eq ho (hk b rfl (Blk.lt ho))
  | .own s sz xs, hs, hk, ho => Own.keep ho hs fun g hg hl => hk g hg hl
  | .rd s sz xs, _, hk, ho => by
    by_cases hp : 0 < xs.length
    · exact RdS.keep ho fun g hg hl => hk g ⟨hp, hg⟩ hl
    · exact ⟨ho.1, fun h0 => absurd h0 hp⟩
  | .any fp P st bd, hs, hk, ho => st h h' hs hk ho
theorem Res.lt {h : Heap} : ∀ (r : Res), r.ok h → ∀ g, r.fp g → g < h.size
  | .blk b t cs, ho, g, hg => by rw [hg]; exact Blk.lt ho
  | .own s sz xs, ho, g, hg => Own.below ho g hg
  | .rd s sz xs, ho, g, hg => by
    have hb : RdS h sz s xs := ho
    obtain ⟨g', o, ha, hx⟩ := hb.2 hg.1
    have h2 := hg.2
    rw [Sl.blk, ha] at h2
    injection h2 with h2
    rw [← h2]
    exact lt_of_cell (a := ⟨g', o + 0, none⟩) ((hx 0 hg.1).trans (List.getElem?_eq_getElem hg.1))
  | .any fp P st bd, ho, g, hg => bd h ho g hg
def Apart (a b : Res) : Prop := ∀ g, a.fp g → ¬ b.fp g
theorem Apart.symm {a b : Res} (h : Apart a b) : Apart b a := fun g hb ha => h g ha hb
/-- What is known, from a first heap on: nothing of that one was turned; each thing has its own new blocks. -/
structure At (h0 h : Heap) (L : List Res) : Prop where
  ext : Ext h0.size h0 h
  ok : ∀ r ∈ L, r.ok h
  lo : ∀ r ∈ L, ∀ g, r.fp g → h0.size ≤ g
  sep : L.Pairwise Apart
section
variable {h0 h h' : Heap} {L : List Res}
theorem At.start (h : Heap) : At h h [] := ⟨Ext.refl _ _, (fun _ h => by cases h), (fun _ h => by cases h), List.Pairwise.nil⟩
theorem At.le (H : At h0 h L) : h0.size ≤ h.size := H.ext.1
theorem At.perm {L' : List Res} (H : At h0 h L) (p : L.Perm L') : At h0 h L' :=
  ⟨H.ext, fun r hr => H.ok r (p.symm.subset hr), fun r hr => H.lo r (p.symm.subset hr), (p.pairwise_iff fun h => Apart.symm h).1 H.sep⟩
theorem At.tail {r : Res} (H : At h0 h (r :: L)) : At h0 h L := ⟨H.ext, fun a ha => H.ok a (List.mem_cons_of_mem _ ha), fun a ha => H.lo a (List.mem_cons_of_mem _ ha), (List.pairwise_cons.1 H.sep).2⟩
theorem At.drop (n : Nat) (H : At h0 h L) : At h0 h (L.drop n) :=
  ⟨H.ext, fun a ha => H.ok a (List.mem_of_mem_drop ha), fun a ha => H.lo a (List.mem_of_mem_drop ha), H.sep.sublist (List.drop_sublist ..)⟩
/-- n things from the i-th on come to the front. -/
theorem At.mv (i n : Nat) (H : At h0 h L) : At h0 h ((L.drop i).take n ++ (L.take i ++ (L.drop i).drop n)) := by
  refine H.perm ?_
  have e : L = L.take i ++ ((L.drop i).take n ++ (L.drop i).drop n) := by rw [List.take_append_drop, List.take_append_drop]
  conv => lhs; rw [e]
  refine (List.perm_append_comm).trans ?_
  rw [List.append_assoc]
  exact List.Perm.append_left _ List.perm_append_comm
/-- The i-th thing is put away. -/
theorem At.del (i : Nat) (H : At h0 h L) : At h0 h (L.eraseIdx i) :=
  ⟨H.ext, fun a ha => H.ok a (List.mem_of_mem_eraseIdx ha), fun a ha => H.lo a (List.mem_of_mem_eraseIdx ha), H.sep.sublist (List.eraseIdx_sublist ..)⟩
theorem At.get {r : Res} (H : At h0 h L) (i : Nat) (hi : L[i]? = some r) : r.ok h := H.ok r (List.mem_of_getElem? hi)
theorem At.from_ {r : Res} (H : At h0 h L) (i : Nat) (hi : L[i]? = some r) : ∀ g, r.fp g → h0.size ≤ g := H.lo r (List.mem_of_getElem? hi)
theorem At.ext' (H : At h0 h L) (he : Ext h.size h h') : At h0 h' L :=
  ⟨H.ext.trans (he.mono H.ext.1), fun r hr => Res.keep r he.1 (fun g _ hl => he.2 g hl) (H.ok r hr), H.lo, H.sep⟩
theorem At.new {r : Res} (H : At h0 h L) (he : Ext h.size h h') (hr : r.ok h') (hf : ∀ g, r.fp g → h.size ≤ g) : At h0 h' (r :: L) := by
  have H' := H.ext' he
  refine ⟨H'.ext, fun a ha => ?_, fun a ha g hg => ?_, List.pairwise_cons.2 ⟨fun a ha g hg x => ?_, H'.sep⟩⟩
  · rcases List.mem_cons.1 ha with rfl | ha
    · exact hr
    · exact H'.ok a ha
  · rcases List.mem_cons.1 ha with rfl | ha
    · exact Nat.le_trans H.le (hf g hg)
    · exact H'.lo a ha g hg
  · have h1 := Res.lt a (H.ok a ha) g x
    have h2 := hf g hg
    omega
/-- The first thing is turned. -/
theorem At.turn0 {r r' : Res} (H : At h0 h (r :: L)) (hu : Upd r.fp h h') (hr : r'.ok h') (hf : ∀ g, r'.fp g → r.fp g ∨ h.size ≤ g) : At h0 h' (r' :: L) := by
  obtain ⟨s1, s2⟩ := List.pairwise_cons.1 H.sep
  refine ⟨H.ext.trans (hu.ext H.le fun k hk x => ?_), fun a ha => ?_, fun a ha g hg => ?_, List.pairwise_cons.2 ⟨fun a ha g hg x => ?_, s2⟩⟩
  · have := H.lo r (List.mem_cons_self ..) k x
    omega
  · rcases List.mem_cons.1 ha with rfl | ha
    · exact hr
    · exact Res.keep a hu.size (fun g hg hl => hu.keep g hl fun x => s1 a ha g x hg) (H.ok a (List.mem_cons_of_mem _ ha))
  · rcases List.mem_cons.1 ha with rfl | ha
    · rcases hf g hg with y | y
      · exact H.lo r (List.mem_cons_self ..) g y
      · exact Nat.le_trans H.le y
    · exact H.lo a (List.mem_cons_of_mem _ ha) g hg
  · rcases hf g hg with y | y
    · exact s1 a ha g y x
    · have h1 := Res.lt a (H.ok a (List.mem_cons_of_mem _ ha)) g x
      omega
theorem set_perm {r r' : Res} : ∀ (L : List Res) (i : Nat), L[i]? = some r → (L.set i r').Perm (r' :: L.eraseIdx i) ∧ L.Perm (r :: L.eraseIdx i)
  | [], _, h => by simp at h
  | a :: L, 0, h => by
    simp only [List.getElem?_cons_zero, Option.some.injEq] at h
    subst h
    exact ⟨List.Perm.refl _, List.Perm.refl _⟩
  | a :: L, i + 1, h => by
    obtain ⟨h1, h2⟩ := set_perm (r := r) (r' := r') L i (by simpa using h)
    exact ⟨(List.Perm.cons a h1).trans (List.Perm.swap ..), (List.Perm.cons a h2).trans (List.Perm.swap ..)⟩
/-- The i-th thing is turned. -/
theorem At.turn {r : Res} (H : At h0 h L) (i : Nat) (hi : L[i]? = some r) {r' : Res} (hu : Upd r.fp h h') (hr : r'.ok h') (hf : ∀ g, r'.fp g → r.fp g ∨ h.size ≤ g) : At h0 h' (L.set i r') := by
  obtain ⟨p1, p2⟩ := set_perm (r' := r') L i hi
  exact ((H.perm p2).turn0 hu hr hf).perm p1.symm
/-- The same heap, another reading of the i-th thing. -/
theorem At.as_ {r : Res} (H : At h0 h L) (i : Nat) (hi : L[i]? = some r) (r' : Res) (hr : r'.ok h) (hf : ∀ g, r'.fp g → r.fp g) : At h0 h (L.set i r') := H.turn i hi (Upd.refl _ _) hr fun g hg => .inl (hf g hg)
theorem At.nil (H : At h0 h L) (sz : Nat) : At h0 h (.own ⟨none, 0, 0⟩ sz [] :: L) := H.new (Ext.refl _ _) (Own.nil _ _) fun g hg => by simp [Res.fp, Sl.blk] at hg

/-! ## Rules -/
theorem brSome {a : Addr} {A B : Prop} (hB : B) : cond (some a).isNone A B := hB
theorem ldAt {kd : Kd} {b j : Nat} {t : TypeId} {cs : List Value} {K : kd.T → Prop} (H : At h0 h L) (i : Nat) (hi : L[i]? = some (.blk b t cs)) (x : kd.T) (hx : cs[j]? = some (kd.mk x)) (hK : K x) : Ld kd h ((⟨b, 0, none⟩ : Addr).add j) K :=
  ldF (H.get i hi) x hx hK
theorem ldAt0 {kd : Kd} {b : Nat} {t : TypeId} {cs : List Value} {K : kd.T → Prop} (H : At h0 h L) (i : Nat) (hi : L[i]? = some (.blk b t cs)) (x : kd.T) (hx : cs[0]? = some (kd.mk x)) (hK : K x) : Ld kd h ⟨b, 0, none⟩ K :=
  ldB (H.get i hi) x hx hK
theorem stAt {b j : Nat} {t : TypeId} {cs : List Value} {v : Value} {K : Heap → Prop} (H : At h0 h L) (i : Nat) (hi : L[i]? = some (.blk b t cs)) (hj : Nat.ble (j + 1) cs.length = true) (hK : ∀ h', At h0 h' (L.set i (.blk b t (cs.set j v))) → K h') : St h ((⟨b, 0, none⟩ : Addr).add j) v K :=
  stF (H.get i hi) (Nat.le_of_ble_eq_true hj) fun h' b' u' _ => hK h' (H.turn i hi (r' := .blk b t (cs.set j v)) u' b' fun _ hg => .inl hg)
theorem stAt0 {b : Nat} {t : TypeId} {cs : List Value} {v : Value} {K : Heap → Prop} (H : At h0 h L) (i : Nat) (hi : L[i]? = some (.blk b t cs)) (hj : Nat.ble 1 cs.length = true) (hK : ∀ h', At h0 h' (L.set i (.blk b t (cs.set 0 v))) → K h') : St h ⟨b, 0, none⟩ v K :=
  stAt (j := 0) H i hi hj hK
theorem allocAt {t : TypeId} {cs : List Value} {K : Addr → Heap → Prop} (H : At h0 h L) (hk : ∀ h' b, At h0 h' (.blk b t cs :: L) → K ⟨b, 0, none⟩ h') : Alloc h (.cells cs.toArray t) K :=
  alloc fun h' b e _ => hk h' h.size (H.new e b fun g hg => by rw [show g = h.size from hg]; exact Nat.le_refl _)
variable {α : Type} {sz : Nat} {E : Enc α sz}
theorem ixAt {s : Sl} {l : List α} {i : Int} {K : Addr → Prop} (H : At h0 h L) (n : Nat) (hn : L[n]? = some (.own s sz (E.fl l))) (k : Nat) (hi : i = (k : Int)) (hk : k < l.length) (hK : ∀ e, ElAt s sz k e → K e) : Ix s i sz K :=
  ixR (Own.rd (H.get n hn)) k hi hk hK
theorem ldEl {kd : Kd} {s : Sl} {l : List α} {k j : Nat} {e : Addr} {K : kd.T → Prop} (H : At h0 h L) (n : Nat) (hn : L[n]? = some (.own s sz (E.fl l))) (he : ElAt s sz k e) (hk : k < l.length) (x : kd.T) (hx : (E.cells l[k])[j]? = some (kd.mk x)) (hK : K x) : Ld kd h (e.add j) K :=
  ldR (Own.rd (H.get n hn)) he hk x hx hK
theorem ldEl0 {kd : Kd} {s : Sl} {l : List α} {k : Nat} {e : Addr} {K : kd.T → Prop} (H : At h0 h L) (n : Nat) (hn : L[n]? = some (.own s sz (E.fl l))) (he : ElAt s sz k e) (hk : k < l.length) (x : kd.T) (hx : (E.cells l[k])[0]? = some (kd.mk x)) (hK : K x) : Ld kd h e K :=
  ldR0 (Own.rd (H.get n hn)) he hk x hx hK
/-- An element that was written. -/
theorem ldElS {kd : Kd} {s : Sl} {l : List α} {k j : Nat} {y : α} {e : Addr} {K : kd.T → Prop} (H : At h0 h L) (n : Nat) (hn : L[n]? = some (.own s sz (E.fl (l.set k y)))) (he : ElAt s sz k e) (hk : k < l.length) (x : kd.T) (hx : (E.cells y)[j]? = some (kd.mk x)) (hK : K x) : Ld kd h (e.add j) K :=
  ldR (Own.rd (H.get n hn)) he (by rw [List.length_set]; exact hk) x (by rw [List.getElem_set_self]; exact hx) hK
theorem ldElS0 {kd : Kd} {s : Sl} {l : List α} {k : Nat} {y : α} {e : Addr} {K : kd.T → Prop} (H : At h0 h L) (n : Nat) (hn : L[n]? = some (.own s sz (E.fl (l.set k y)))) (he : ElAt s sz k e) (hk : k < l.length) (x : kd.T) (hx : (E.cells y)[0]? = some (kd.mk x)) (hK : K x) : Ld kd h e K :=
  ldElS (j := 0) H n hn he hk x hx hK
theorem stEl {s : Sl} {l : List α} {k j : Nat} {e : Addr} {v : Value} {K : Heap → Prop} (y : α) (H : At h0 h L) (n : Nat) (hn : L[n]? = some (.own s sz (E.fl l))) (he : ElAt s sz k e) (hk : k < l.length) (hj : Nat.ble (j + 1) sz = true) (hy : E.cells y = (E.cells l[k]).set j v)
    (hK : ∀ h', At h0 h' (L.set n (.own s sz (E.fl (l.set k y)))) → K h') : St h (e.add j) v K :=
  stR (H.get n hn) he hk (Nat.le_of_ble_eq_true hj) y hy fun h' o' u' _ => hK h' (H.turn n hn (r' := .own s sz (E.fl (l.set k y))) u' o' fun _ hg => .inl hg)
theorem stEl0 {s : Sl} {l : List α} {k : Nat} {e : Addr} {v : Value} {K : Heap → Prop} (y : α) (H : At h0 h L) (n : Nat) (hn : L[n]? = some (.own s sz (E.fl l))) (he : ElAt s sz k e) (hk : k < l.length) (hy : E.cells y = (E.cells l[k]).set 0 v)
    (hK : ∀ h', At h0 h' (L.set n (.own s sz (E.fl (l.set k y)))) → K h') : St h e v K :=
  stR0 (H.get n hn) he hk y hy fun h' o' u' _ => hK h' (H.turn n hn (r' := .own s sz (E.fl (l.set k y))) u' o' fun _ hg => .inl hg)
theorem stElS {s : Sl} {l : List α} {k j : Nat} {x : α} {e : Addr} {v : Value} {K : Heap → Prop} (y : α) (H : At h0 h L) (n : Nat) (hn : L[n]? = some (.own s sz (E.fl (l.set k x)))) (he : ElAt s sz k e) (hk : k < l.length) (hj : Nat.ble (j + 1) sz = true) (hy : E.cells y = (E.cells x).set j v)
    (hK : ∀ h', At h0 h' (L.set n (.own s sz (E.fl (l.set k y)))) → K h') : St h (e.add j) v K :=
  stEl (l := l.set k x) y H n hn he (by rw [List.length_set]; exact hk) hj (by rw [List.getElem_set_self]; exact hy) fun h' H' => hK h' (by rwa [List.set_set] at H')
theorem stElS0 {s : Sl} {l : List α} {k : Nat} {x : α} {e : Addr} {v : Value} {K : Heap → Prop} (y : α) (H : At h0 h L) (n : Nat) (hn : L[n]? = some (.own s sz (E.fl (l.set k x)))) (he : ElAt s sz k e) (hk : k < l.length) (hy : E.cells y = (E.cells x).set 0 v)
    (hK : ∀ h', At h0 h' (L.set n (.own s sz (E.fl (l.set k y)))) → K h') : St h e v K :=
  stEl0 (l := l.set k x) y H n hn he (by rw [List.length_set]; exact hk) (by rw [List.getElem_set_self]; exact hy) fun h' H' => hK h' (by rwa [List.set_set] at H')
variable {P : Program} {t ty e : TypeId} {by_ : Nat}
/-- append: the i-th thing grows. -/
theorem appAt {s x : Sl} {xs ys : List α} {K : Sl → Heap → Prop} (hT : ElemT P t e sz by_) (H : At h0 h L) (n : Nat) (hn : L[n]? = some (.own s sz (E.fl xs))) (hx : RdS h sz x (E.fl ys)) (hlen : (xs.length + ys.length) * by_ ≤ 140737488355328) (h63 : xs.length + ys.length ≤ 4611686018427387903)
    (hk : ∀ s' h', At h0 h' (L.set n (.own s' sz (E.fl (xs ++ ys)))) → K s' h') : App P t ty s x h K :=
  appR hT (H.get n hn) hx hlen h63 fun s' h' o' g' => hk s' h' (H.turn n hn (r' := .own s' sz (E.fl (xs ++ ys))) g'.upd o' g'.stp.grow)
theorem app1At {s : Sl} {l : List α} {K : Sl → Heap → Prop} (hT : ElemT P t e sz by_) (H : At h0 h L) (n : Nat) (hn : L[n]? = some (.own s sz (E.fl l))) (x : α) (hlen : (l.length + 1) * by_ ≤ 140737488355328) (h63 : l.length + 1 ≤ 4611686018427387903)
    (hk : ∀ s' h', At h0 h' (L.set n (.own s' sz (E.fl (l ++ [x])))) → K s' h') : Alloc h (.cells (E.cells x).toArray e) fun b h1 => App P t ty s ⟨some b, 1, 1⟩ h1 K :=
  app1 hT x (H.get n hn) hlen h63 fun s' h' o' g' => hk s' h' (H.turn n hn (r' := .own s' sz (E.fl (l ++ [x]))) g'.upd o' g'.stp.grow)
/-- append of one element that lies in a block of its own. -/
theorem app1B {s : Sl} {l : List α} {K : Sl → Heap → Prop} {b : Nat} {tb : TypeId} {cs : List Value} (hT : ElemT P t e sz by_) (H : At h0 h L) (n : Nat) (hn : L[n]? = some (.own s sz (E.fl l))) (m : Nat) (hm : L[m]? = some (.blk b tb cs)) (x : α) (hx : E.cells x = cs)
    (hlen : (l.length + 1) * by_ ≤ 140737488355328) (h63 : l.length + 1 ≤ 4611686018427387903)
    (hk : ∀ s' h', At h0 h' (L.set n (.own s' sz (E.fl (l ++ [x])))) → K s' h') : App P t ty s ⟨some ⟨b, 0, none⟩, 1, 1⟩ h K := by
  refine appAt (ys := [x]) hT H n hn ?_ hlen h63 hk
  rw [E.fl_one, hx]
  have hb : Blk h b tb cs := H.get m hm
  exact (Own.full hb (sz := sz) (n := 1) (by rw [← hx, E.len, Nat.one_mul]) (by decide)).rd
theorem At.of_ext (he : Ext h0.size h0 h) : At h0 h [] := ⟨he, (fun _ h => by cases h), (fun _ h => by cases h), List.Pairwise.nil⟩
/-- What an argument told in the first heap. -/
theorem At.arg {s : Sl} {xs : List Value} {sz : Nat} (H : At h0 h L) (hr : RdS h0 sz s xs) : RdS h sz s xs := hr.ext' H.ext
theorem At.own {s : Sl} {xs : List Value} {sz : Nat} (H : At h0 h L) (n : Nat) (hn : L[n]? = some (.own s sz xs)) : Own h sz s xs := H.get n hn
theorem At.rdo {s : Sl} {xs : List Value} {sz : Nat} (H : At h0 h L) (n : Nat) (hn : L[n]? = some (.own s sz xs)) : RdS h sz s xs := Own.rd (H.get n hn)
theorem At.rdr {s : Sl} {xs : List Value} {sz : Nat} (H : At h0 h L) (n : Nat) (hn : L[n]? = some (.rd s sz xs)) : RdS h sz s xs := H.get n hn
theorem At.n {s : Sl} {l : List α} (H : At h0 h L) (n : Nat) (hn : L[n]? = some (.own s sz (E.fl l))) : s.n = l.length := ownn (H.get n hn)
end
end Go.Proofs.Ytegbnmaglkpkjaa
