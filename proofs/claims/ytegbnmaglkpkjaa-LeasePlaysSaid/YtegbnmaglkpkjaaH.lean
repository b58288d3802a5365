/-
  What a row's reading of an argument tells, with the reach that the form itself sets: no slice and no text takes more than 2^47 - 4096 bytes.
-/
import Derived.Test.YtegbnmaglkpkjaaG
import Derived.Test.YtegbnmaglkpkjaaEnd
import Derived.SizedLaws
namespace Go.Proofs.Ytegbnmaglkpkjaa
open Go Go.ChangeShapes Go.WideShapes

def Fits {H : Type} (P : Program) (t : TypeId) (d : DataW H) : Prop := (d.weights P t).all (· ≤ reachBytes) = true
theorem reach_eq : reachBytes = 140737488351232 := rfl
theorem fits_at {H : Type} {P : Program} {ts : List TypeId} {ds : List (DataW H)} (h : (DataW.weightsEach P ts ds).all (· ≤ reachBytes) = true) {j : Nat} {t : TypeId} {d : DataW H} (ht : ts[j]? = some t) (hd : ds[j]? = some d) : Fits P t d :=
  List.all_eq_true.2 fun n hn => List.all_eq_true.1 h n (DataW.weights_mem_each ht hd n hn)
theorem fits_all {H : Type} {P : Program} {e : TypeId} : ∀ {l : List (DataW H)}, (DataW.weightsAll P e l).all (· ≤ reachBytes) = true → ∀ d ∈ l, Fits P e d
  | [], _, d, hd => by cases hd
  | d0 :: l, h, d, hd => by
    simp only [DataW.weightsAll, List.all_append, Bool.and_eq_true] at h
    rcases List.mem_cons.1 hd with rfl | hd
    · exact h.1
    · exact fits_all h.2 d hd

section
variable {H : Type} {enc : TypeId × Value → H} {P : Program} {w : World}
/-- What the cells of an element of this type are like. -/
def ElS (enc : TypeId × Value → H) (P : Program) (w : World) (e : TypeId) (Q : List Value → Prop) : Prop :=
  ∀ (n : Nat) (cs : List Value) (x : DataW H × List MemPlace), DataW.trod enc P w 0 (fun _ => true) true n e cs = some x → Fits P e x.1 → Q cs
theorem els_map {e : TypeId} {Q Q' : List Value → Prop} (he : ElS enc P w e Q) (h : ∀ cs, Q cs → Q' cs) : ElS enc P w e Q' := fun n cs x hx hs => h cs (he n cs x hx hs)
theorem els_int {e : TypeId} {k : IntKind} (ht : P.underlying e = some (.int k)) : ElS enc P w e fun cs => ∃ n, cs = [.int k n] ∧ (Lit.int k n).wf = true := fun n cs x h _ => el_int ht n cs x h
theorem els_bool {e : TypeId} (ht : P.underlying e = some .bool) : ElS enc P w e fun cs => ∃ b, cs = [.bool b] := fun n cs x h _ => el_bool ht n cs x h
theorem els_str {e : TypeId} (ht : P.underlying e = some .string) : ElS enc P w e fun cs => ∃ s : ByteArray, cs = [.string s] ∧ s.size ≤ 140737488351232 := fun n cs x h hs => by
  obtain ⟨b, h1, h2, _⟩ := DataW.trod_string ht h
  refine ⟨b, h1, ?_⟩
  rw [h2] at hs
  have := List.all_eq_true.1 hs b.data.toList.length (by simp [DataW.weights])
  have e : b.data.toList.length = b.size := rfl
  rw [e] at this
  exact of_decide_eq_true this
theorem els_sl {t e : TypeId} {sz : Nat} {Q : List Value → Prop} (ht : P.underlying t = some (.slice e)) (hc : P.cellsOf e = sz) (hp : 0 < sz) (hb : 0 < P.bytesOf e) (he : ElS enc P w e Q) :
    ElS enc P w t fun cs => ∃ (s : Sl) (css : List (List Value)), cs = [s.v] ∧ css.length = s.n ∧ (∀ c ∈ css, c.length = sz ∧ Q c) ∧ Arg w.heap sz s css.flatten ∧ s.c ≤ 140737488351232 := by
  intro fuel cs x h hfit
  have hlt := DataW.trod_lt _ _ _ _ h
  rcases DataW.trod_slice ht h with ⟨rfl, _⟩ | ⟨a, len, cap, elems, rest, n, _, rfl, rfl, _, hl, hm, hlen, hel, hsp, _⟩
  · exact ⟨⟨none, 0, 0⟩, [], rfl, rfl, (by simp), ⟨RdS.nil _ _ _ _, Nat.le_refl _, (by simp), fun h => by simp at h⟩, by simp⟩
  rw [hc] at hel hsp hlt
  obtain ⟨hrl, _⟩ := hsp rfl
  have hfit' : (((elems.map (·.1)).length + (rest.map (·.1)).length) * P.bytesOf e :: (DataW.weightsAll P e (elems.map (·.1)) ++ DataW.weightsAll P e (rest.map (·.1)))).all (· ≤ reachBytes) = true := by
    have := hfit
    simpa only [Fits, DataW.weights, ht] using this
  rw [List.all_cons, List.all_append, Bool.and_eq_true, Bool.and_eq_true, List.length_map, List.length_map, hlen, hrl] at hfit'
  obtain ⟨f0, f1, _⟩ := hfit'
  have f0 : (len + (cap - len)) * P.bytesOf e ≤ 140737488351232 := of_decide_eq_true f0
  have f2 := fits_all f1
  have hcap : cap ≤ 140737488351232 := by
    have h1 : (len + (cap - len)) * 1 ≤ (len + (cap - len)) * P.bytesOf e := Nat.mul_le_mul_left _ hb
    omega
  let f : Nat → List Value := fun i => (w.cells? 0 (a.add (i * sz)) sz).getD (List.replicate sz (.bool false))
  have hf : ∀ i, (f i).length = sz := fun i => by
    show ((w.cells? 0 (a.add (i * sz)) sz).getD _).length = sz
    cases hcs : w.cells? 0 (a.add (i * sz)) sz with
    | none => simp
    | some l => exact (World.cells?_some hcs).2.1
  have each : ∀ i, i < len → w.cells? 0 (a.add (i * sz)) sz = some (f i) ∧ Q (f i) := by
    intro i hi
    have h1 := hel i hi
    rw [List.getElem?_eq_getElem (by omega)] at h1
    cases hcs : w.cells? 0 (a.add (i * sz)) sz with
    | none => rw [hcs] at h1; cases h1
    | some l =>
      rw [hcs] at h1
      have e : f i = l := by show ((w.cells? 0 (a.add (i * sz)) sz).getD _) = l; rw [hcs]; rfl
      rw [e]
      exact ⟨rfl, he _ _ _ h1 (f2 _ (List.mem_map.2 ⟨elems[i], List.getElem_mem _, rfl⟩))⟩
  have hfl : ((List.range len).map f).flatten = (List.range len).flatMap f := by rw [List.flatMap_def]
  refine ⟨⟨some a, len, cap⟩, (List.range len).map f, rfl, by simp, ?_, ⟨⟨?_, fun hpos => ?_⟩, hl, hm, fun hc0 g hg => ?_⟩, hcap⟩
  · intro c hcm
    obtain ⟨i, hi, rfl⟩ := List.mem_map.1 hcm
    exact ⟨hf i, (each i (List.mem_range.1 hi)).2⟩
  · rw [hfl, flat_len f sz hf, List.length_range]
  · rw [hfl, flat_len f sz hf, List.length_range] at hpos
    have hl0 : 0 < len := Nat.pos_of_ne_zero fun e => by rw [e] at hpos; simp at hpos
    have hspot : a.spot = none := by
      have := (World.cells?_some (each 0 hl0).1).2.2 0 hp
      rw [Nat.zero_mul, show (a.add 0).add 0 = a from rfl, List.getElem?_eq_getElem (by rw [hf]; exact hp)] at this
      unfold World.cell? at this
      split at this
      · cases hs : a.spot with
        | none => rfl
        | some _ => rw [hs] at this; simp at this
      · cases this
    obtain ⟨g, o, sp⟩ := a
    obtain rfl : sp = none := hspot
    refine ⟨g, o, rfl, fun j hj => ?_⟩
    rw [hfl, flat_len f sz hf, List.length_range] at hj
    have hi : j / sz < len := Nat.div_lt_of_lt_mul (by rw [Nat.mul_comm]; exact hj)
    have hr : j % sz < sz := Nat.mod_lt _ hp
    have hjj : j / sz * sz + j % sz = j := by rw [Nat.mul_comm]; exact Nat.div_add_mod j sz
    have h2 := (World.cells?_some (each (j / sz) hi).1).2.2 (j % sz) hr
    rw [add0, add0, Nat.add_assoc, hjj, cell_eq] at h2
    have h3 := flat_get f sz hf (List.range len) (j / sz) (j % sz) (by rw [List.length_range]; exact hi) hr
    rw [hjj, List.getElem_range] at h3
    rw [h2, hfl, h3]
  · have hg' : a.block = g := by simpa [Sl.blk] using hg
    rw [← hg']
    refine hlt (.cell a.block (a.off + 0)) ?_
    refine List.mem_append_left _ ?_
    have hc0' : 0 < cap := hc0
    unfold MemPlace.row
    exact List.mem_map.2 ⟨0, List.mem_range.2 (Nat.mul_pos (by omega) hp), rfl⟩
theorem els_bytes {t e : TypeId} (ht : P.underlying t = some (.slice e)) (he : P.underlying e = some (.int .u8)) (hc : P.cellsOf e = 1) (hb : 0 < P.bytesOf e) :
    ElS enc P w t fun cs => ∃ (s : Sl) (xs : List UInt8), cs = [s.v] ∧ Arg w.heap 1 s (cB xs) ∧ s.c ≤ 140737488351232 :=
  els_map (els_sl ht hc (by decide) hb (els_int he)) fun cs ⟨s, css, h1, h2, h3, h4, h6⟩ => by
    obtain ⟨xs, h5, _⟩ := cells_bytes h3
    exact ⟨s, xs, h1, h5 ▸ h4, h6⟩
theorem els_st {t : TypeId} {fs : Array Field} {Q : List Value → Prop} (ht : P.underlying t = some (.struct fs))
    (hq : ∀ cs : List Value, cs.length = P.cellsOf t → (∀ (i : Nat) (f : Field), fs[i]? = some f → ∃ n x, DataW.trod enc P w 0 (fun _ => true) true n f.type ((cs.drop f.offset).take (P.cellsOf f.type)) = some x ∧ Fits P f.type x.1) → Q cs) :
    ElS enc P w t Q := fun _ cs _ h hfit => by
  obtain ⟨xs, n, _, hx, h1, h2, h3⟩ := DataW.trod_struct ht h
  refine hq cs h1 fun i f hf => ?_
  have h4 := h3 i f hf
  have hi : i < xs.length := by rw [h2]; exact (Array.getElem?_eq_some_iff.1 hf).1
  rw [List.getElem?_eq_getElem hi] at h4
  refine ⟨n, _, h4, ?_⟩
  rw [hx] at hfit
  have hfit' : (DataW.weightsEach P (fs.toList.map (·.type)) (xs.map (·.1))).all (· ≤ reachBytes) = true := by simpa only [Fits, DataW.weights, ht] using hfit
  refine fits_at hfit' (j := i) ?_ ?_
  · rw [List.getElem?_map, Array.getElem?_toList, hf]; rfl
  · rw [List.getElem?_map, List.getElem?_eq_getElem hi]; rfl

/-! ## At the row -/
theorem args_sl {t e : TypeId} {sz : Nat} {Q : List Value → Prop} {b0 : Nat} {v : Value} {d : DataW H} {ps : List MemPlace} (ht : P.underlying t = some (.slice e)) (hc : P.cellsOf e = sz) (hp : 0 < sz) (hb : 0 < P.bytesOf e) (he : ElS enc P w e Q)
    (hval : Value.okWide P w .any b0 t v) (hd : DataW.Trod enc P w 0 (fun _ => true) true t v d ps) (hf : Fits P t d) :
    ∃ (s : Sl) (css : List (List Value)), v = s.v ∧ css.length = s.n ∧ (∀ c ∈ css, c.length = sz ∧ Q c) ∧ Arg w.heap sz s css.flatten ∧ s.below w.heap.size ∧ s.c ≤ 140737488351232 := by
  obtain ⟨fuel, hd⟩ := hd
  obtain ⟨a, len, cap, rfl⟩ := okWide_slice ht hval
  obtain ⟨s, css, h1, h2, h3, h4, h6⟩ := els_sl ht hc hp hb he _ _ _ hd hf
  have h1' : [Value.slice a len cap] = [s.v] := h1
  obtain ⟨a', n', c'⟩ := s
  simp only [Sl.v, List.cons.injEq, Value.slice.injEq, and_true] at h1'
  obtain ⟨rfl, rfl, rfl⟩ := h1'
  refine ⟨⟨a, len, cap⟩, css, rfl, h2, h3, h4, fun g hg => ?_, h6⟩
  cases a with
  | none => simp [Sl.blk] at hg
  | some a =>
    have hg' : a.block = g := by simpa [Sl.blk] using hg
    simp only [Value.okWide, ht, Cell.okWide, Cell.ok] at hval
    obtain ⟨_, _, _, _, row, cells, hs, _⟩ := hval
    rw [← hg']
    unfold World.shape? at hs
    split at hs
    · rename_i c el fz hb
      exact (Array.getElem?_eq_some_iff.1 hb).1
    · cases hs
theorem args_str {t : TypeId} {b0 : Nat} {v : Value} {d : DataW H} {ps : List MemPlace} (ht : P.underlying t = some .string)
    (hd : DataW.Trod enc P w 0 (fun _ => true) true t v d ps) (hf : Fits P t d) (x : ByteArray) (hx : v = .string x) : x.size ≤ 140737488351232 := by
  obtain ⟨fuel, hd⟩ := hd
  subst hx
  obtain ⟨s, h1, h2⟩ := els_str ht _ _ _ hd hf
  have h1' : [Value.string x] = [Value.string s] := h1
  injection h1' with h1' _
  injection h1' with h1'
  rw [h1']; exact h2
theorem args_bytes {t e : TypeId} {b0 : Nat} {v : Value} {d : DataW H} {ps : List MemPlace} (ht : P.underlying t = some (.slice e)) (he : P.underlying e = some (.int .u8)) (hc : P.cellsOf e = 1) (hb : 0 < P.bytesOf e)
    (hval : Value.okWide P w .any b0 t v) (hd : DataW.Trod enc P w 0 (fun _ => true) true t v d ps) (hf : Fits P t d) :
    ∃ (s : Sl) (xs : List UInt8), v = s.v ∧ Arg w.heap 1 s (cB xs) ∧ s.below w.heap.size ∧ s.c ≤ 140737488351232 := by
  obtain ⟨s, css, h1, h2, h3, h4, h5, h6⟩ := args_sl ht hc (by decide) hb (els_int he) hval hd hf
  obtain ⟨xs, h7, _⟩ := cells_bytes h3
  exact ⟨s, xs, h1, h7 ▸ h4, h5, h6⟩
end
end Go.Proofs.Ytegbnmaglkpkjaa
