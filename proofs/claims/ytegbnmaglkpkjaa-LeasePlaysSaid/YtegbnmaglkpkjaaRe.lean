/-
  More rules: clear.
-/
import Derived.Test.YtegbnmaglkpkjaaRd
import Derived.Lib.SliceRun
namespace Go.Proofs.Ytegbnmaglkpkjaa
open Go

theorem zc_eq (zs : List Value) (n : Nat) (hp : 0 < zs.length) : (Builtin.zeroCells zs.toArray n).toList = (List.replicate n zs).flatten := by
  have := made_eq zs n hp
  have e : Builtin.zeroCells zs.toArray n = madeCells zs.toArray (n * zs.length) := by simp [Builtin.zeroCells, madeCells]
  rw [e, this]
theorem clr_core {P : Program} {t e : TypeId} {sz by_ : Nat} {zs : List Value} (hT : ElemT P t e sz by_) (hz : ZeroT P e zs) (h1 : zs.all (·.oneCell') = true) {h : Heap} {g o n c : Nat} {K : Heap → Prop}
    (hc : ∀ j, j < n * sz → (cellH h ⟨g, o + j, none⟩).isSome = true ∧ frozenH h ⟨g, o + j, none⟩ = false)
    (hk : ∀ h', (∀ x : Addr, (x.block = g → x.spot = none → x.off < o ∨ o + n * sz ≤ x.off) → cellH h' x = cellH h x) → (∀ x, frozenH h' x = frozenH h x) → (∀ j, j < n * sz → (cellH h' ⟨g, o + j, none⟩).isSome = true) →
      Upd (· = g) h h' → h'.size = h.size → K h') : OpT P (Builtin.clear_ #[t] 0 #[.slice (some ⟨g, o, none⟩) n c]) h [] K := by
  obtain ⟨hu, ⟨i, z, hi, hzz, hsz, hbb, hzs⟩, hpos⟩ := hT
  have hz1 : z.cells = zs.toArray := by
    have := hz.z
    rw [hi] at this
    simp only [Option.bind_some, hzz, Option.map_some, Option.some.injEq] at this
    exact this
  have hlz : zs.length = sz := by rw [← hzs, hz1]; simp
  intro w hw
  by_cases hn : n = 0
  · subst hn
    refine ⟨.tuple #[], w, ?_, Env.refl w, (), rfl, ?_⟩
    · simp [Builtin.clear_, run_underlying hu]
    · rw [hw]
      exact hk h (fun _ _ => rfl) (fun _ => rfl) (fun j hj => by rw [Nat.zero_mul] at hj; omega) (Upd.refl _ _) rfl
  · obtain ⟨m, rfl⟩ : ∃ m, n = m + 1 := ⟨n - 1, by omega⟩
    have hv : ∀ w, (zeroValue e).run P w = .ok z w := fun w => by simp [zeroValue, typeInfo, hi, hzz]
    generalize hR : (List.replicate (m + 1) zs).flatten = vs
    have hzc : (Builtin.zeroCells z.cells (m + 1)).toList = vs := by rw [hz1, zc_eq _ _ (by omega), hR]
    have hvl : vs.length = (m + 1) * sz := by rw [← hR, List.length_flatten]; simp [hlz]
    have hst := run_storeCells_cells (P := P) g o vs 0 w (fun j hj => by rw [Nat.add_zero, cell_eq, hw]; exact (hc j (by omega)).1) (fun j hj => by rw [Nat.add_zero, frozen_eq, hw]; exact (hc j (by omega)).2)
      (fun v hv' => by
        rw [← hR] at hv'
        obtain ⟨l, hl, hvl⟩ := List.mem_flatten.1 hv'
        rw [List.eq_of_mem_replicate hl] at hvl
        exact List.all_eq_true.1 h1 v hvl)
    simp only [Nat.add_zero] at hst
    have hrun : (Builtin.clear_ #[t] 0 #[.slice (some ⟨g, o, none⟩) (m + 1) c]).run P w = .ok (.tuple #[]) (w.setCells g o vs) := by
      simp [Builtin.clear_, run_underlying hu, hv, hzc, hst]
    refine ⟨.tuple #[], _, hrun, env_setCells w g vs o, (), rfl, ?_⟩
    refine hk _ (fun x hx => ?_) (fun x => ?_) (fun j hj => ?_) ⟨by rw [size_setCells, hw]; exact Nat.le_refl _, fun k hk hn => by rw [get_setCells g vs o w hn, hw]⟩ (by rw [size_setCells, hw])
    · rw [← cell_eq, World.cell?_setCells_out g vs o w x (by rw [hvl]; exact hx), cell_eq, hw]
    · rw [← frozen_eq, World.frozen?_setCells, frozen_eq, hw]
    · rw [← cell_eq, World.cell?_setCells_in g vs o w (fun j hj => by rw [cell_eq, hw]; exact (hc j (by omega)).1) j (by omega)]
      rfl
/-- 'clear(s)' on a slice that may be written. -/
theorem clrO {P : Program} {t e : TypeId} {sz by_ : Nat} {zs : List Value} (hT : ElemT P t e sz by_) (hz : ZeroT P e zs) (h1 : zs.all (·.oneCell') = true) {h : Heap} {s : Sl} {xs : List Value} {K : Heap → Prop} (ho : Own h sz s xs)
    (hk : ∀ h', Upd (fun g => s.blk = some g) h h' → h'.size = h.size → K h') : OpT P (Builtin.clear_ #[t] 0 #[.slice s.a s.n s.c]) h [] K := by
  obtain ⟨hl, hnc, hc63, hh⟩ := ho
  have hsz : s.n * sz ≤ s.c * sz := Nat.mul_le_mul_right _ hnc
  rcases hh with ⟨ha, _⟩ | ⟨g, o, ha, hg, hx, hw⟩
  · rw [ha]
    intro w hw
    refine ⟨.tuple #[], w, ?_, Env.refl w, (), rfl, ?_⟩
    · simp [Builtin.clear_, run_underlying hT.und]
    · rw [hw]; exact hk h (Upd.refl _ _) rfl
  · rw [ha]
    exact clr_core hT hz h1 (fun j hj => hw j (by omega)) fun h' _ _ _ hu hz' => hk h' (hu.mono fun k _ hk => by rw [hk]; simp [Sl.blk, ha]) hz'
/-- 'clear(s[len(s):u])' on a slice that may be written: what it holds stays. -/
theorem cutClr {P : Program} {t e : TypeId} {sz by_ : Nat} {zs : List Value} (hT : ElemT P t e sz by_) (hz : ZeroT P e zs) (h1 : zs.all (·.oneCell') = true) {h : Heap} {s : Sl} {xs : List Value} {lo hi : Option Value} {K : Heap → Prop} (ho : Own h sz s xs)
    (u : Nat) (hlo : LoIs lo s.n) (hhi : HiIs hi s.n u) (hu : s.n ≤ u) (huc : u ≤ s.c)
    (hk : ∀ h', Own h' sz s xs → Upd (fun g => s.blk = some g) h h' → h'.size = h.size → K h') :
    Cut P t s lo hi none fun s5 => OpT P (Builtin.clear_ #[t] 0 #[.slice s5.a s5.n s5.c]) h [] K := by
  refine cut_raw hT s.n u s.c hlo hhi (.inl ⟨rfl, rfl⟩) hu huc (Nat.le_refl _) ?_
  by_cases hun : u = s.n
  · have e : (cutSl s sz s.n u s.c).n = 0 := by show u - s.n = 0; omega
    rw [e]
    intro w hw
    refine ⟨.tuple #[], w, ?_, Env.refl w, (), rfl, ?_⟩
    · cases (cutSl s sz s.n u s.c).a <;> simp [Builtin.clear_, run_underlying hT.und]
    · rw [hw]; exact hk h ho (Upd.refl _ _) rfl
  · obtain ⟨hl, hnc, hc63, hh⟩ := ho
    rcases hh with ⟨ha, hc0⟩ | ⟨g, o, ha, hg, hx, hw⟩
    · omega
    have hcs : (cutSl s sz s.n u s.c).a = some ⟨g, o + s.n * sz, none⟩ := by
      show (if s.c = s.n then s.a else s.a.map (·.add (s.n * sz))) = _
      rw [if_neg (by omega), ha]
      simp only [Option.map_some]
      rw [add0]
    rw [hcs]
    have husz : s.n * sz + (u - s.n) * sz ≤ s.c * sz := by rw [← Nat.add_mul]; exact Nat.mul_le_mul_right _ (by omega)
    show OpT P (Builtin.clear_ #[t] 0 #[.slice (some ⟨g, o + s.n * sz, none⟩) (u - s.n) (s.c - s.n)]) h [] K
    refine clr_core hT hz h1 (fun j hj => by rw [Nat.add_assoc]; exact hw _ (by omega)) fun h' hc' hf' hs' hu' hz' => ?_
    refine hk h' ⟨hl, hnc, hc63, .inr ⟨g, o, ha, by omega, fun j hj => ?_, fun j hj => ⟨?_, by rw [hf']; exact (hw j hj).2⟩⟩⟩ (hu'.mono fun k _ hk => by rw [hk]; simp [Sl.blk, ha]) hz'
    · rw [hc' _ fun _ _ => .inl (by show o + j < o + s.n * sz; omega)]
      exact hx j hj
    · by_cases hin : s.n * sz ≤ j ∧ j < s.n * sz + (u - s.n) * sz
      · have := hs' (j - s.n * sz) (by omega)
        rwa [show o + s.n * sz + (j - s.n * sz) = o + j by omega] at this
      · rw [hc' _ fun _ _ => by show o + j < o + s.n * sz ∨ o + s.n * sz + (u - s.n) * sz ≤ o + j; omega]
        exact (hw j hj).1
end Go.Proofs.Ytegbnmaglkpkjaa
