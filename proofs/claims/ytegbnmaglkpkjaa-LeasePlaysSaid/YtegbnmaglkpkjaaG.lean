/-
  What a row's reading of an argument tells of the heap: slices, element by element, and structs.
-/
import Derived.Test.YtegbnmaglkpkjaaRb
import Derived.ChangeArms
import Derived.ChangeOld
import Derived.ChangeShapes
namespace Go.Proofs.Ytegbnmaglkpkjaa
open Go Go.ChangeShapes Go.WideShapes

theorem flat_get {α : Type} (f : α → List Value) (sz : Nat) (hf : ∀ x, (f x).length = sz) : ∀ (xs : List α) (i j : Nat) (hi : i < xs.length), j < sz → (xs.flatMap f)[i * sz + j]? = (f xs[i])[j]?
  | [], i, j, hi, _ => by simp at hi
  | x :: xs, 0, j, _, hj => by
    simp only [List.flatMap_cons, Nat.zero_mul, Nat.zero_add, List.getElem_cons_zero]
    rw [List.getElem?_append_left (by rw [hf]; exact hj)]
  | x :: xs, i + 1, j, hi, hj => by
    have ih := flat_get f sz hf xs i j (by simpa using hi) hj
    simp only [List.flatMap_cons, List.getElem_cons_succ]
    rw [List.getElem?_append_right (by rw [hf, Nat.succ_mul]; omega), hf, show (i + 1) * sz + j - sz = i * sz + j by rw [Nat.succ_mul]; omega, ih]
theorem flat_len {α : Type} (f : α → List Value) (sz : Nat) (hf : ∀ x, (f x).length = sz) (xs : List α) : (xs.flatMap f).length = xs.length * sz := by
  induction xs with
  | nil => simp
  | cons x xs ih => simp only [List.flatMap_cons, List.length_append, hf, ih, List.length_cons, Nat.succ_mul]; omega

/-- A slice as an argument holds it. -/
structure Arg (h : Heap) (sz : Nat) (s : Sl) (cs : List Value) : Prop where
  rd : RdS h sz s cs
  le : s.n ≤ s.c
  mx : s.c ≤ 9223372036854775807
  lo : 0 < s.c → s.below h.size
theorem Arg.keep {h h' : Heap} {sz : Nat} {s : Sl} {cs : List Value} (ha : Arg h sz s cs) {B : Nat} (he : Ext B h h') (hB : h.size ≤ B) : Arg h' sz s cs :=
  ⟨ha.rd.keep fun g _ hl => he.2 g (by omega), ha.le, ha.mx, fun hc g hg => Nat.lt_of_lt_of_le (ha.lo hc g hg) he.1⟩
/-- What is below B is kept where nothing below B is turned. -/
theorem Arg.ext {h h₀ h' : Heap} {sz : Nat} {s : Sl} {cs : List Value} (ha : Arg h₀ sz s cs) (h1 : Ext h₀.size h₀ h) (h2 : Ext h₀.size h h') : Arg h' sz s cs := ha.keep (h1.trans h2) (Nat.le_refl _)

section
variable {H : Type} {enc : TypeId × Value → H} {P : Program} {w : World}
/-- What the cells of an element of this type are like. -/
def El (enc : TypeId × Value → H) (P : Program) (w : World) (e : TypeId) (Q : List Value → Prop) : Prop :=
  ∀ (n : Nat) (cs : List Value) (x : DataW H × List MemPlace), DataW.trod enc P w 0 (fun _ => true) true n e cs = some x → Q cs
theorem el_int {e : TypeId} {k : IntKind} (ht : P.underlying e = some (.int k)) : El enc P w e fun cs => ∃ n, cs = [.int k n] ∧ (Lit.int k n).wf = true := fun _ _ _ h => by
  obtain ⟨n, h1, _, h2⟩ := DataW.trod_int ht h
  exact ⟨n, h1, h2⟩
theorem el_bool {e : TypeId} (ht : P.underlying e = some .bool) : El enc P w e fun cs => ∃ b, cs = [.bool b] := fun _ _ _ h => by
  obtain ⟨b, h1, _⟩ := DataW.trod_bool ht h
  exact ⟨b, h1⟩
theorem el_str {e : TypeId} (ht : P.underlying e = some .string) : El enc P w e fun cs => ∃ s : ByteArray, cs = [.string s] ∧ s.size ≤ 9223372036854775807 := fun _ _ _ h => by
  obtain ⟨b, h1, _, h2⟩ := DataW.trod_string ht h
  exact ⟨b, h1, h2⟩
theorem el_sl {t e : TypeId} {sz : Nat} {Q : List Value → Prop} (ht : P.underlying t = some (.slice e)) (hc : P.cellsOf e = sz) (hp : 0 < sz) (he : El enc P w e Q) :
    El enc P w t fun cs => ∃ (s : Sl) (css : List (List Value)), cs = [s.v] ∧ css.length = s.n ∧ (∀ c ∈ css, c.length = sz ∧ Q c) ∧ Arg w.heap sz s css.flatten := by
  intro fuel cs x h
  have hlt := DataW.trod_lt _ _ _ _ h
  rcases DataW.trod_slice ht h with ⟨rfl, _⟩ | ⟨a, len, cap, elems, rest, n, _, rfl, rfl, _, hl, hm, hlen, hel, hsp, _⟩
  · exact ⟨⟨none, 0, 0⟩, [], rfl, rfl, (by simp), ⟨RdS.nil _ _ _ _, Nat.le_refl _, (by simp), fun h => by simp at h⟩⟩
  rw [hc] at hel hsp hlt
  obtain ⟨hrl, _⟩ := hsp rfl
  let f : Nat → List Value := fun i => (w.cells? 0 (a.add (i * sz)) sz).getD (List.replicate sz (.bool false))
  have hf : ∀ i, (f i).length = sz := fun i => by
    show ((w.cells? 0 (a.add (i * sz)) sz).getD _).length = sz
    cases hcs : w.cells? 0 (a.add (i * sz)) sz with
    | none => simp
    | some l => exact (World.cells?_some hcs).2.1
  have each : ∀ i, i < len → w.cells? 0 (a.add (i * sz)) sz = some (f i) ∧ Q (f i) := by
    intro i hi
    have h1 := hel i hi
    rw [List.getElem?_eq_getElem (by omega)] at h1
    cases hcs : w.cells? 0 (a.add (i * sz)) sz with
    | none => rw [hcs] at h1; cases h1
    | some l =>
      rw [hcs] at h1
      have e : f i = l := by show ((w.cells? 0 (a.add (i * sz)) sz).getD _) = l; rw [hcs]; rfl
      rw [e]
      exact ⟨rfl, he _ _ _ h1⟩
  have hfl : ((List.range len).map f).flatten = (List.range len).flatMap f := by rw [List.flatMap_def]
  refine ⟨⟨some a, len, cap⟩, (List.range len).map f, rfl, by simp, ?_, ⟨⟨?_, fun hpos => ?_⟩, hl, hm, fun hc0 g hg => ?_⟩⟩
  · intro c hcm
    obtain ⟨i, hi, rfl⟩ := List.mem_map.1 hcm
    exact ⟨hf i, (each i (List.mem_range.1 hi)).2⟩
  · rw [hfl, flat_len f sz hf, List.length_range]
  · rw [hfl, flat_len f sz hf, List.length_range] at hpos
    have hl0 : 0 < len := Nat.pos_of_ne_zero fun e => by rw [e] at hpos; simp at hpos
    have hspot : a.spot = none := by
      have := (World.cells?_some (each 0 hl0).1).2.2 0 hp
      rw [Nat.zero_mul, show (a.add 0).add 0 = a from rfl, List.getElem?_eq_getElem (by rw [hf]; exact hp)] at this
      unfold World.cell? at this
      split at this
      · cases hs : a.spot with
        | none => rfl
        | some _ => rw [hs] at this; simp at this
      · cases this
    obtain ⟨g, o, sp⟩ := a
    obtain rfl : sp = none := hspot
    refine ⟨g, o, rfl, fun j hj => ?_⟩
    rw [hfl, flat_len f sz hf, List.length_range] at hj
    have hi : j / sz < len := Nat.div_lt_of_lt_mul (by rw [Nat.mul_comm]; exact hj)
    have hr : j % sz < sz := Nat.mod_lt _ hp
    have hjj : j / sz * sz + j % sz = j := by rw [Nat.mul_comm]; exact Nat.div_add_mod j sz
    have h2 := (World.cells?_some (each (j / sz) hi).1).2.2 (j % sz) hr
    rw [add0, add0, Nat.add_assoc, hjj, cell_eq] at h2
    have h3 := flat_get f sz hf (List.range len) (j / sz) (j % sz) (by rw [List.length_range]; exact hi) hr
    rw [hjj, List.getElem_range] at h3
    rw [h2, hfl, h3]
  · have hg' : a.block = g := by simpa [Sl.blk] using hg
    rw [← hg']
    refine hlt (.cell a.block (a.off + 0)) ?_
    refine List.mem_append_left _ ?_
    have hc0' : 0 < cap := hc0
    unfold MemPlace.row
    exact List.mem_map.2 ⟨0, List.mem_range.2 (Nat.mul_pos (by omega) hp), rfl⟩

theorem el_map {e : TypeId} {Q Q' : List Value → Prop} (he : El enc P w e Q) (h : ∀ cs, Q cs → Q' cs) : El enc P w e Q' := fun n cs x hx => h cs (he n cs x hx)

/-! ## Bytes -/
theorem cells_bytes {css : List (List Value)} (h : ∀ c ∈ css, c.length = 1 ∧ ∃ n, c = [.int .u8 n] ∧ (Lit.int .u8 n).wf = true) : ∃ xs : List UInt8, css.flatten = cB xs ∧ xs.length = css.length := by
  induction css with
  | nil => exact ⟨[], rfl, rfl⟩
  | cons c css ih =>
    obtain ⟨xs, h1, h2⟩ := ih fun c' hc' => h c' (List.mem_cons_of_mem _ hc')
    obtain ⟨_, n, rfl, hn⟩ := h c (List.mem_cons_self ..)
    have hb : 0 ≤ n ∧ n ≤ 255 := by
      simp [Lit.wf, IntKind.min, IntKind.max, IntKind.bits, IntKind.signed] at hn; omega
    refine ⟨UInt8.ofNat n.toNat :: xs, ?_, by simp [h2]⟩
    simp only [List.flatten_cons, h1, cB, List.map_cons, List.cons_append, List.nil_append]
    congr 2
    have : (UInt8.ofNat n.toNat).toNat = n.toNat := by simp; omega
    rw [this]; omega
def ByQ (w : World) (cs : List Value) : Prop := ∃ (s : Sl) (xs : List UInt8), cs = [s.v] ∧ Arg w.heap 1 s (cB xs)
theorem el_bytes {t e : TypeId} (ht : P.underlying t = some (.slice e)) (he : P.underlying e = some (.int .u8)) (hc : P.cellsOf e = 1) : El enc P w t (ByQ w) :=
  el_map (el_sl ht hc (by decide) (el_int he)) fun cs ⟨s, css, h1, h2, h3, h4⟩ => by
    obtain ⟨xs, h5, _⟩ := cells_bytes h3
    exact ⟨s, xs, h1, h5 ▸ h4⟩

theorem cells_of {α : Type} (f : α → List Value) (ok : α → Prop) : ∀ {css : List (List Value)}, (∀ c ∈ css, ∃ a, c = f a ∧ ok a) → ∃ as : List α, css.flatten = as.flatMap f ∧ (∀ a ∈ as, ok a) ∧ as.length = css.length
  | [], _ => ⟨[], rfl, (by simp), rfl⟩
  | c :: css, h => by
    obtain ⟨as, h1, h2, h3⟩ := cells_of f ok (css := css) fun c' hc' => h c' (List.mem_cons_of_mem _ hc')
    obtain ⟨a, rfl, h4⟩ := h c (List.mem_cons_self ..)
    refine ⟨a :: as, by simp [h1], fun b hb => ?_, by simp [h3]⟩
    rcases List.mem_cons.1 hb with rfl | hb
    · exact h4
    · exact h2 b hb

/-! ## Structs of several cells -/
theorem el_st {t : TypeId} {fs : Array Field} {Q : List Value → Prop} (ht : P.underlying t = some (.struct fs))
    (hq : ∀ cs : List Value, cs.length = P.cellsOf t → (∀ (i : Nat) (f : Field), fs[i]? = some f → ∃ n x, DataW.trod enc P w 0 (fun _ => true) true n f.type ((cs.drop f.offset).take (P.cellsOf f.type)) = some x) → Q cs) :
    El enc P w t Q := fun _ cs _ h => by
  obtain ⟨xs, n, _, _, h1, h2, h3⟩ := DataW.trod_struct ht h
  refine hq cs h1 fun i f hf => ?_
  have h4 := h3 i f hf
  have hi : i < xs.length := by rw [h2]; exact (Array.getElem?_eq_some_iff.1 hf).1
  rw [List.getElem?_eq_getElem hi] at h4
  exact ⟨n, _, h4⟩

/-! ## At the row -/
theorem arg_sl {t e : TypeId} {sz : Nat} {Q : List Value → Prop} {b0 : Nat} {v : Value} {d : DataW H} {ps : List MemPlace} (ht : P.underlying t = some (.slice e)) (hc : P.cellsOf e = sz) (hp : 0 < sz) (he : El enc P w e Q)
    (hval : Value.okWide P w .any b0 t v) (hd : DataW.Trod enc P w 0 (fun _ => true) true t v d ps) :
    ∃ (s : Sl) (css : List (List Value)), v = s.v ∧ css.length = s.n ∧ (∀ c ∈ css, c.length = sz ∧ Q c) ∧ Arg w.heap sz s css.flatten ∧ s.below w.heap.size := by
  obtain ⟨fuel, hf⟩ := hd
  obtain ⟨a, len, cap, rfl⟩ := okWide_slice ht hval
  obtain ⟨s, css, h1, h2, h3, h4⟩ := el_sl ht hc hp he _ _ _ hf
  have h1' : [Value.slice a len cap] = [s.v] := h1
  obtain ⟨a', n', c'⟩ := s
  simp only [Sl.v, List.cons.injEq, Value.slice.injEq, and_true] at h1'
  obtain ⟨rfl, rfl, rfl⟩ := h1'
  refine ⟨⟨a, len, cap⟩, css, rfl, h2, h3, h4, fun g hg => ?_⟩
  cases a with
  | none => simp [Sl.blk] at hg
  | some a =>
    have hg' : a.block = g := by simpa [Sl.blk] using hg
    simp only [Value.okWide, ht, Cell.okWide, Cell.ok] at hval
    obtain ⟨_, _, _, _, row, cells, hs, _⟩ := hval
    rw [← hg']
    unfold World.shape? at hs
    split at hs
    · rename_i c el fz hb
      exact (Array.getElem?_eq_some_iff.1 hb).1
    · cases hs
theorem arg_bytes {t e : TypeId} {b0 : Nat} {v : Value} {d : DataW H} {ps : List MemPlace} (ht : P.underlying t = some (.slice e)) (he : P.underlying e = some (.int .u8)) (hc : P.cellsOf e = 1)
    (hval : Value.okWide P w .any b0 t v) (hd : DataW.Trod enc P w 0 (fun _ => true) true t v d ps) :
    ∃ (s : Sl) (xs : List UInt8), v = s.v ∧ Arg w.heap 1 s (cB xs) ∧ s.below w.heap.size := by
  obtain ⟨s, css, h1, h2, h3, h4, h5⟩ := arg_sl ht hc (by decide) (el_int he) hval hd
  obtain ⟨xs, h6, _⟩ := cells_bytes h3
  exact ⟨s, xs, h1, h6 ▸ h4, h5⟩
end
end Go.Proofs.Ytegbnmaglkpkjaa
