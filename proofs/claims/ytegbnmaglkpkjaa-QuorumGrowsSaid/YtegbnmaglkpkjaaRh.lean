/-
  Copying within slices, an append of zeros, and slices.Insert.
-/
import Derived.Test.YtegbnmaglkpkjaaRg
import Derived.Lib.AppendZerosOnto
import Derived.Lib.Overlaps
import Derived.Laws.LoneSync
namespace Go.Proofs.Ytegbnmaglkpkjaa
open Go

section
variable {P : Program} {t tx tn ty e : TypeId} {sz by_ : Nat}
/-- Up to its capacity a slice has cells of some content. -/
theorem own_more {h : Heap} {s : Sl} {xs : List Value} (ho : Own h sz s xs) (m : Nat) (h1 : s.n ≤ m) (h2 : m ≤ s.c) : ∃ zs, zs.length = (m - s.n) * sz ∧ Own h sz ⟨s.a, m, s.c⟩ (xs ++ zs) := by
  obtain ⟨hl, hn, hm, hc⟩ := ho
  rcases hc with ⟨ha, hc⟩ | ⟨g, o, ha, hg, hx, hw⟩
  · have e0 : m = 0 := by omega
    have e1 : s.n = 0 := by omega
    subst e0
    refine ⟨[], by simp, by rw [List.append_nil, hl, e1], Nat.zero_le _, hm, .inl ⟨ha, hc⟩⟩
  · refine ⟨(List.range ((m - s.n) * sz)).map fun j => (cellH h ⟨g, o + s.n * sz + j, none⟩).getD (.bool false), by simp, ?_, h2, hm, .inr ⟨g, o, ha, hg, fun j hj => ?_, hw⟩⟩
    · show _ = m * sz
      rw [List.length_append, List.length_map, List.length_range, hl, ← Nat.add_mul]; congr 1; omega
    · by_cases hjx : j < xs.length
      · rw [hx j hjx, List.getElem?_append_left hjx]
      · rw [List.length_append, List.length_map, List.length_range] at hj
        rw [List.getElem?_append_right (by omega), List.getElem?_map, List.getElem?_range (by omega)]
        have e1 : o + s.n * sz + (j - xs.length) = o + j := by omega
        simp only [Option.map_some, e1]
        have hlt : j < s.c * sz := by
          have : (m - s.n) * sz + s.n * sz = m * sz := by rw [← Nat.add_mul]; congr 1; omega
          have : m * sz ≤ s.c * sz := Nat.mul_le_mul_right _ h2
          omega
        obtain ⟨v, hv⟩ := Option.isSome_iff_exists.1 (hw j hlt).1
        rw [hv]; rfl
theorem mul_lt_le {a n sz j : Nat} (h : a < n) (hj : j < sz) : a * sz + j < n * sz := by
  have : (a + 1) * sz ≤ n * sz := Nat.mul_le_mul_right _ h
  rw [Nat.succ_mul] at this
  omega
/-- 'copy' into a slice from its a-th element on. -/
theorem cpy (hT : ElemT P t e sz by_) {s x : Sl} {h : Heap} {xs ys : List Value} {K : Int → Heap → Prop} (ho : Own h sz s xs) (a m : Nat) (hm : m = min x.n (s.n - a)) (hp : 0 < m) (hx : RdS h sz x ys) (h1 : ∀ u ∈ ys.take (m * sz), u.oneCell' = true)
    (hk : ∀ h', Own h' sz s (xs.take (a * sz) ++ (ys.take (m * sz) ++ xs.drop ((a + m) * sz))) → Upd (fun g => s.blk = some g) h h' → h'.size = h.size → K (m : Int) h') :
    OpT P (Builtin.copy_ #[t, tx] ty #[.slice (cutSl s sz a s.n s.c).a (cutSl s sz a s.n s.c).n (cutSl s sz a s.n s.c).c, .slice x.a x.n x.c]) h [.one (.int .i64)] K := by
  intro w hw
  obtain ⟨hu, ⟨i, z, hi, hz, hsz, hby, hzs⟩, hpos⟩ := hT
  obtain ⟨hl, hn, hmx, hc⟩ := ho
  have han : a < s.n := by omega
  have hmx2 : m ≤ x.n := by omega
  have hma : a + m ≤ s.n := by omega
  have hyl : (ys.take (m * sz)).length = m * sz := by
    rw [List.length_take, hx.1]
    exact Nat.min_eq_left (Nat.mul_le_mul_right _ hmx2)
  obtain ⟨gx, ox, hax, hxc⟩ := hx.2 (by rw [hx.1]; exact Nat.mul_pos (by omega) hpos)
  rcases hc with ⟨_, hc0⟩ | ⟨g, o, ha, hg, hcells, hwr⟩
  · omega
  have hda : (cutSl s sz a s.n s.c).a = some ⟨g, o + a * sz, none⟩ := by
    show (if s.c = a then s.a else s.a.map (·.add (a * sz))) = _
    rw [if_neg (by omega), ha, Option.map_some, add_at]
  have hfc : (Builtin.firstCells sz m (.slice x.a x.n x.c)).run P w = .ok (ys.take (m * sz)).toArray w := by
    rw [hax]
    refine run_firstCells_some w sz m _ x.n x.c _ hyl fun j u hj => ?_
    have hjl : j < (ys.take (m * sz)).length := (List.getElem?_eq_some_iff.1 hj).1
    rw [hyl] at hjl
    rw [List.getElem?_take, if_pos hjl] at hj
    rw [add_at]
    show w.cell? ⟨gx, ox + j, none⟩ = some u
    have hjy : j < ys.length := (List.getElem?_eq_some_iff.1 hj).1
    rw [cell_eq, hw, hxc j hjy, hj]
  have hle : (a + m) * sz ≤ s.n * sz := Nat.mul_le_mul_right _ hma
  have hle2 : s.n * sz ≤ s.c * sz := Nat.mul_le_mul_right _ hn
  rw [Nat.add_mul] at hle
  have hst := run_storeCells_cells (P := P) g (o + a * sz) (ys.take (m * sz)) 0 w
    (fun j hj => by rw [hyl] at hj; rw [Nat.add_zero, Nat.add_assoc, cell_eq, hw]; exact (hwr _ (by omega)).1)
    (fun j hj => by rw [hyl] at hj; rw [Nat.add_zero, Nat.add_assoc, frozen_eq, hw]; exact (hwr _ (by omega)).2) h1
  rw [Nat.add_zero] at hst
  have hmin : Nat.min x.n (s.n - a) = m := hm.symm
  have hrun : (Builtin.copy_ #[t, tx] ty #[.slice (cutSl s sz a s.n s.c).a (cutSl s sz a s.n s.c).n (cutSl s sz a s.n s.c).c, .slice x.a x.n x.c]).run P w = .ok (goInt m) (w.setCells g (o + a * sz) (ys.take (m * sz))) := by
    rw [hda]
    show (Builtin.copy_ #[t, tx] ty #[.slice (some ⟨g, o + a * sz, none⟩) (s.n - a) (s.c - a), .slice x.a x.n x.c]).run P w = _
    simp [Builtin.copy_, run_underlying hu, Builtin.lenOf, sizeOf, typeInfo, hi, hsz, hmin, hfc, hst]
  refine ⟨_, _, hrun, env_setCells w g _ _, ((m : Int), ()), rfl, ?_⟩
  show K (m : Int) (w.setCells g (o + a * sz) (ys.take (m * sz))).heap
  have hfr : ∀ y : Addr, frozenH (w.setCells g (o + a * sz) (ys.take (m * sz))).heap y = frozenH h y := fun y => by rw [← frozen_eq, World.frozen?_setCells, frozen_eq, hw]
  have hsome : ∀ j, j < (ys.take (m * sz)).length → (w.cell? ⟨g, o + a * sz + j, none⟩).isSome = true := fun j hj => by rw [hyl] at hj; rw [Nat.add_assoc, cell_eq, hw]; exact (hwr _ (by omega)).1
  have hin : ∀ j, a * sz ≤ j → j < (a + m) * sz → cellH (w.setCells g (o + a * sz) (ys.take (m * sz))).heap ⟨g, o + j, none⟩ = (ys.take (m * sz))[j - a * sz]? := fun j h2 h3 => by
    rw [Nat.add_mul] at h3
    have hj' : j - a * sz < (ys.take (m * sz)).length := by rw [hyl]; omega
    have := World.cell?_setCells_in g (ys.take (m * sz)) (o + a * sz) w hsome (j - a * sz) hj'
    rw [show o + a * sz + (j - a * sz) = o + j by omega] at this
    rw [← cell_eq, this, List.getElem?_eq_getElem hj']
  have hout : ∀ j, (j < a * sz ∨ (a + m) * sz ≤ j) → cellH (w.setCells g (o + a * sz) (ys.take (m * sz))).heap ⟨g, o + j, none⟩ = cellH h ⟨g, o + j, none⟩ := fun j h2 => by
    rw [← cell_eq, World.cell?_setCells_out g _ _ _ _ (fun _ _ => ?_), cell_eq, hw]
    rw [hyl]
    rcases h2 with h2 | h2
    · exact .inl (by show o + j < o + a * sz; omega)
    · rw [Nat.add_mul] at h2
      exact .inr (by show o + a * sz + m * sz ≤ o + j; omega)
  have htk : (xs.take (a * sz)).length = a * sz := by rw [List.length_take, hl]; exact Nat.min_eq_left (by omega)
  refine hk _ ⟨?_, hn, hmx, .inr ⟨g, o, ha, by rw [size_setCells, hw]; exact hg, fun j hj => ?_, fun j hj => ⟨?_, by rw [hfr]; exact (hwr j hj).2⟩⟩⟩ ⟨by rw [size_setCells, hw]; exact Nat.le_refl _, fun k hk hn => ?_⟩ (by rw [size_setCells, hw])
  · rw [List.length_append, List.length_append, htk, hyl, List.length_drop, hl, Nat.add_mul]; omega
  · by_cases h2 : j < a * sz
    · rw [hout j (.inl h2), List.getElem?_append_left (by omega), List.getElem?_take, if_pos h2, hcells j (by omega)]
    · rw [List.getElem?_append_right (by omega), htk]
      by_cases h3 : j < (a + m) * sz
      · rw [hin j (by omega) h3, List.getElem?_append_left (by rw [hyl]; rw [Nat.add_mul] at h3; omega)]
      · rw [List.length_append, List.length_append, htk, hyl, List.length_drop, hl] at hj
        have h3' : a * sz + m * sz ≤ j := by rw [Nat.add_mul] at h3; omega
        rw [hout j (.inr (by omega)), List.getElem?_append_right (by rw [hyl]; omega), List.getElem?_drop, hyl, hcells j (by rw [Nat.add_mul] at hj; omega)]
        congr 1
        rw [Nat.add_mul]; omega
  · by_cases h2 : a * sz ≤ j ∧ j < (a + m) * sz
    · rw [hin j h2.1 h2.2, List.getElem?_eq_getElem (by rw [hyl]; have := h2.2; rw [Nat.add_mul] at this; omega)]; rfl
    · rw [hout j (by omega)]; exact (hwr j hj).1
  · rw [get_setCells g _ _ w (fun e => hn (by simp [Sl.blk, ha, e])), hw]
/-- 'append(s, make([]T, k)...)' where there is no room. -/
theorem app_zeros (hT : ElemT P t e sz by_) {zs : List Value} (hz0 : ZeroT P e zs) (hzl : zs.length = sz) {kn : IntKind} (htn : P.underlying tn = some (.int kn)) {s : Sl} {h : Heap} {xs : List Value} {K : Sl → Heap → Prop} (hr : RdS h sz s xs) {kk : Int} (k : Nat) (hkk : kk = (k : Int)) (hk0 : 0 < k) (hg : s.c < s.n + k)
    (hlen : (s.n + k) * by_ ≤ 140737488355328) (h63 : s.n + k ≤ 4611686018427387903)
    (hk : ∀ s' h', Own h' sz s' (xs ++ (List.replicate k zs).flatten) → s'.n = s.n + k → s'.from_ h.size → Ext h.size h h' → K s' h') :
    OpT P (Builtin.append_ #[t, tn] ty #[.slice s.a s.n s.c, .int .i64 kk]) h [.one .sl] K := by
  subst hkk
  intro w hw
  obtain ⟨hu, ⟨i, z, hi, hz, hsz, hby, hzs⟩, hpos⟩ := hT
  have hzc : z.cells = zs.toArray := by
    have := hz0.z
    rw [hi] at this
    simpa [hz] using this
  have hfit : Builtin.nextslicecap (s.n + k) s.c * i.bytes ≤ 281474976710656 := by
    have := nextcap_le (s.n + k) s.c hg
    rw [hby]
    calc Builtin.nextslicecap (s.n + k) s.c * by_ ≤ (2 * (s.n + k)) * by_ := Nat.mul_le_mul_right _ this
      _ = 2 * ((s.n + k) * by_) := by rw [Nat.mul_assoc]
      _ ≤ 281474976710656 := by omega
  have h48 : k * i.bytes ≤ 281474976710656 := by
    rw [hby]
    have : k * by_ ≤ (s.n + k) * by_ := Nat.mul_le_mul_right _ (by omega)
    omega
  have hold : (Builtin.firstCells i.size s.n (.slice s.a s.n s.c)).run P w.drew = .ok xs.toArray w.drew := by
    rw [hsz]
    by_cases hx0 : 0 < xs.length
    · obtain ⟨g, o, ha, hcells⟩ := hr.2 hx0
      rw [ha]
      refine run_firstCells_some w.drew sz s.n _ s.n s.c xs hr.1 fun j u hj => ?_
      have hjl : j < xs.length := (List.getElem?_eq_some_iff.1 hj).1
      rw [Addr.add_lit]
      show w.cell? ⟨g, o + j, none⟩ = some u
      rw [cell_eq, hw, hcells j hjl, hj]
    · have hs0 : s.n = 0 := by
        have h1 := hr.1
        rcases Nat.eq_zero_or_pos s.n with h2 | h2
        · exact h2
        · have := Nat.mul_pos h2 hpos; omega
      have hxs : xs = [] := List.eq_nil_of_length_eq_zero (by omega)
      subst hxs
      rw [hs0]
      cases ha : s.a with
      | none => exact run_firstCells_none w.drew sz 0 0 s.c
      | some a => exact run_firstCells_some w.drew sz 0 a 0 s.c [] (by simp) (fun j u hj => by simp at hj)
  have hrun := Lib.run_append_grow_zeros (P := P) w t tn ty e i z .i64 kn hu htn hi hz s.a s.n s.c xs hold k hk0 (by rw [hsz]; exact hpos) hg (by omega) h48 hfit
  have hge := grownCap_ge w (s.n + k) s.c e
  have hle := grownCap_le_maxLen w (s.n + k) s.c e (by simp only [maxLen]; omega)
  refine ⟨_, _, hrun, ⟨rfl, rfl, rfl⟩, ((⟨some ⟨w.heap.size, 0, none⟩, s.n + k, grownCap w (s.n + k) s.c e⟩ : Sl), ()), rfl, ?_⟩
  generalize hG : grownCap w (s.n + k) s.c e = G at *
  have hlen2 : (xs.toArray ++ Builtin.zeroCells z.cells k ++ Builtin.zeroCells z.cells (G - (s.n + k))).toList.length = G * sz := by
    simp only [Array.toList_append, List.length_append, Array.length_toList, size_zeroCells, hzs, hr.1, ← Nat.add_mul]
    congr 1; omega
  have hb := Blk.new w.heap e (xs.toArray ++ Builtin.zeroCells z.cells k ++ Builtin.zeroCells z.cells (G - (s.n + k))).toList
  have hown := Own.of_blk hb (n := s.n + k) hlen2 hge (by simp only [maxLen] at hle; omega)
  have hzk : (Builtin.zeroCells z.cells k).toList = (List.replicate k zs).flatten := by rw [hzc]; exact zc_eq zs k (by omega)
  have htake : ((xs.toArray ++ Builtin.zeroCells z.cells k ++ Builtin.zeroCells z.cells (G - (s.n + k))).toList).take ((s.n + k) * sz) = xs ++ (List.replicate k zs).flatten := by
    have hl3 : (xs ++ (List.replicate k zs).flatten).length = (s.n + k) * sz := by rw [List.length_append, hr.1, Nat.add_mul, ← hzk, Array.length_toList, size_zeroCells, hzs]
    rw [Array.toList_append, Array.toList_append, hzk, ← hl3]
    exact List.take_left
  rw [htake] at hown
  have hheap : (w.drew.alloc (.cells (xs.toArray ++ Builtin.zeroCells z.cells k ++ Builtin.zeroCells z.cells (G - (s.n + k))) e)).heap = w.heap.push (.cells (xs.toArray ++ Builtin.zeroCells z.cells k ++ Builtin.zeroCells z.cells (G - (s.n + k))).toList.toArray e) := rfl
  show K ⟨some ⟨w.heap.size, 0, none⟩, s.n + k, G⟩ (w.drew.alloc _).heap
  rw [hheap]
  refine hk _ _ hown rfl (fun g hg => ?_) ?_
  · simp only [Sl.blk, Option.map_some, Option.some.injEq] at hg
    rw [← hg, hw]; exact Nat.le_refl _
  · rw [← hw]; exact ext_push _ _ (Nat.le_refl _)
/-- A cut reads so. -/
theorem rd_cut (hT : ElemT P t e sz by_) {s : Sl} {h : Heap} {xs : List Value} (hr : RdS h sz s xs) (l u m : Nat) (h1 : l ≤ u) (hu : u ≤ s.n) (h2 : u ≤ m) : RdS h sz (cutSl s sz l u m) ((xs.drop (l * sz)).take ((u - l) * sz)) := by
  refine ⟨?_, fun hp => ?_⟩
  · have e1 : (u - l) * sz + l * sz ≤ s.n * sz := by rw [← Nat.add_mul]; exact Nat.mul_le_mul_right _ (by omega)
    rw [List.length_take, List.length_drop, hr.1]
    show min ((u - l) * sz) _ = (u - l) * sz
    omega
  · have hpos := hT.pos
    rw [List.length_take, List.length_drop] at hp
    obtain ⟨g, o, ha, hx⟩ := hr.2 (by omega)
    have hne : m ≠ l := fun e => by
      have : u - l = 0 := by omega
      rw [this] at hp; simp at hp
    refine ⟨g, o + l * sz, by simp only [cutSl]; rw [if_neg hne, ha]; simp [add_at], fun j hj => ?_⟩
    rw [List.length_take, List.length_drop] at hj
    rw [Nat.add_assoc, hx _ (by omega), List.getElem?_take, if_pos (by omega), List.getElem?_drop]
end
/-! ## slices.overlaps -/
structure OvT (P : Program) (f : FuncId) (t : TypeId) : Prop where
  ex : ∃ (fn : Func) (tr : TypeId), P.funcs[f]? = some fn ∧ (fn.name == "runtime.NumGoroutine") = false ∧ fn.body.isNone = true ∧ Extern.findNext fn = none ∧ Extern.find fn = some (Extern.SlicesOverlaps.overlaps #[t, t] #[tr])
theorem ovl {P : Program} {f t e : TypeId} {sz by_ : Nat} (hO : OvT P f t) (hT : ElemT P t e sz by_) {h : Heap} {b : Nat} {tv : TypeId} {cs : List Value} {n c : Nat} {d : Sl} {g o : Nat} {K : Bool → Heap → Prop} (hb : h[b]? = some (.cells cs.toArray tv (0, 0)))
    (hd : d.a = some ⟨g, o, none⟩) (hgb : b ≠ g) (hg : (cellH h ⟨g, o, none⟩).isSome = true) (hk : K false h) : ExtR P f #[.slice (some ⟨b, 0, none⟩) n c, .slice d.a d.n d.c] h [.one .bool] K := by
  obtain ⟨fn, tr, hf, hname, hbody, hn, he⟩ := hO.ex
  obtain ⟨hu, ⟨i, z, hi, _, hsz, _, _⟩, _⟩ := hT
  intro w hw
  obtain ⟨v, hv⟩ := Option.isSome_iff_exists.1 hg
  have hsb : ∃ tB kB, w.shape? g = some (tB, kB) ∧ kB ≠ 0 := by
    obtain ⟨e', n', h1, h2, _⟩ := World.shape?_of_cell? (w := w) (a := ⟨g, o, none⟩) (v := v) (by rw [cell_eq, hw]; exact hv)
    exact ⟨e', n', h1, by omega⟩
  obtain ⟨tB, kB, hsb, hkB⟩ := hsb
  have hsa : w.shape? b = some (tv, cs.length) := by
    unfold World.shape?
    rw [hw, hb]
    simp
  have hfz : ∀ k, w.frozen? ⟨b, k, none⟩ = false := fun k => by
    unfold World.frozen?
    rw [hw, hb]
    simp
  have hz : ∀ w, (Go.sizeOf e).run P w = .ok sz w := fun w => by rw [← hsz]; exact info_run hi w
  have hov := Lib.run_overlaps_apart (P := P) w t tr e hu sz hz ⟨b, 0, none⟩ ⟨g, o, none⟩ n c d.n d.c hgb tv tB cs.length kB hsa hsb hkB (hfz 0) (hfz _)
  refine ⟨.value (.bool false), w, ?_, Env.refl w, (false, ()), rfl, by rw [hw]; exact hk⟩
  rw [hd]
  rw [run_callFunc_extern hf hname hbody hn he]
  have hov' : (Extern.SlicesOverlaps.overlaps #[t, t] #[tr] #[.slice (some ⟨b, 0, none⟩) n c, .slice (some ⟨g, o, none⟩) d.n d.c]).run P w = .ok (.bool false) w := hov
  rw [hov']
  rfl
/-! ## slices.Insert -/
def InsertS (P : Program) (t tn ov : Nat) (rot : Sl → Int → Heap → (Heap → Prop) → Prop) (s : Sl) (i : Int) (v : Sl) (h : Heap) (R : Sl → Heap → Prop) : Prop :=
  Cut P t s (some (.int .i64 i)) none none fun s1 =>
  Let ((v.n : Int) : Int) fun m =>
  (bif m == 0 then
    R s h
  else
    Let ((s.n : Int) : Int) fun n =>
    (bif i == n then
      App P t t s v h fun s2 h_ =>
      R s2 h_
    else
      (bif decide ((IntKind.i64.wrap (n + m)) > (s.c : Int)) then
        Cut P t s none (some (.int .i64 i)) none fun s3 =>
        OpT P (Builtin.append_ #[t, tn] t #[.slice s3.a s3.n s3.c, .int .i64 (IntKind.i64.wrap ((IntKind.i64.wrap (n + m)) - i))]) h [.one .sl] fun s4 h_1 =>
        Cut P t s4 (some (.int .i64 i)) none none fun s5 =>
        OpT P (Builtin.copy_ #[t, t] tn #[.slice s5.a s5.n s5.c, .slice v.a v.n v.c]) h_1 [.one (.int .i64)] fun n1 h_2 =>
        Cut P t s4 (some (.int .i64 (IntKind.i64.wrap (i + m)))) none none fun s6 =>
        Cut P t s (some (.int .i64 i)) none none fun s7 =>
        OpT P (Builtin.copy_ #[t, t] tn #[.slice s6.a s6.n s6.c, .slice s7.a s7.n s7.c]) h_2 [.one (.int .i64)] fun n2 h_3 =>
        R s4 h_3
      else
        Cut P t s none (some (.int .i64 (IntKind.i64.wrap (n + m)))) none fun s8 =>
        Cut P t s8 (some (.int .i64 (IntKind.i64.wrap (i + m)))) none none fun s9 =>
        ExtR P ov #[.slice v.a v.n v.c, .slice s9.a s9.n s9.c] h [.one .bool] fun (r : Bool) h_4 =>
        (bif !r then
          Cut P t s8 (some (.int .i64 (IntKind.i64.wrap (i + m)))) none none fun s10 =>
          Cut P t s8 (some (.int .i64 i)) none none fun s11 =>
          OpT P (Builtin.copy_ #[t, t] tn #[.slice s10.a s10.n s10.c, .slice s11.a s11.n s11.c]) h_4 [.one (.int .i64)] fun n3 h_5 =>
          Cut P t s8 (some (.int .i64 i)) none none fun s12 =>
          OpT P (Builtin.copy_ #[t, t] tn #[.slice s12.a s12.n s12.c, .slice v.a v.n v.c]) h_5 [.one (.int .i64)] fun n4 h_6 =>
          R s8 h_6
        else
          Cut P t s8 (some (.int .i64 n)) none none fun s13 =>
          OpT P (Builtin.copy_ #[t, t] tn #[.slice s13.a s13.n s13.c, .slice v.a v.n v.c]) h_4 [.one (.int .i64)] fun n5 h_7 =>
          Cut P t s8 (some (.int .i64 i)) none none fun s14 =>
          rot s14 m h_7 fun h_8 =>
          R s8 h_8
        )
      )
    )
  )
section
variable {P : Program} {t tn ov e : TypeId} {sz by_ : Nat} {α : Type} {E : Enc α sz}
theorem cut_from (hT : ElemT P t e sz by_) {s : Sl} {i : Int} {K : Sl → Prop} (a : Nat) (hi : i = (a : Int)) (ha : a ≤ s.n) (hc : s.n ≤ s.c) (hk : K (cutSl s sz a s.n s.c)) : Cut P t s (some (.int .i64 i)) none none K :=
  cut_raw hT a s.n s.c (loi hi) (hi0 _) (.inl ⟨rfl, rfl⟩) ha hc (Nat.le_refl _) hk
theorem insert_ok (hT : ElemT P t e sz by_) {zs : List Value} (hz : ZeroT P e zs) (hzl : zs.length = sz) {kn : IntKind} (htn : P.underlying tn = some (.int kn)) (hO : OvT P ov t) {rot : Sl → Int → Heap → (Heap → Prop) → Prop} {h0 h : Heap} {L : List Res} {s : Sl} {l : List α} {R : Sl → Heap → Prop} {ii : Int}
    (H : At h0 h L) (n : Nat) (hn : L[n]? = some (.own s sz (E.fl l))) (i : Nat) (hii : ii = (i : Int)) (hi : i ≤ l.length) (x : α) {b : Nat} {tv : TypeId} (hb : h[b]? = some (.cells (E.cells x).toArray tv (0, 0))) (hbs : ∀ g, s.blk = some g → g ≠ b) (hlen : (l.length + 1) * by_ ≤ 140737488355328) (h63 : l.length + 1 ≤ 1000000000)
    (hR : ∀ s' h', At h0 h' (L.set n (.own s' sz (E.fl (l.take i ++ x :: l.drop i)))) → R s' h') : InsertS P t tn ov rot s ii ⟨some ⟨b, 0, none⟩, 1, 1⟩ h R := by
  subst hii
  have ho := H.own n hn
  have hsn := ownn ho
  have hsc := ho.2.1
  have hBb : Blk h b tv (E.cells x) := ⟨(0, 0), hb, .inl rfl⟩
  have hv : RdS h sz ⟨some ⟨b, 0, none⟩, 1, 1⟩ (E.fl [x]) := by
    rw [E.fl_one]
    exact (Own.full hBb (sz := sz) (n := 1) (by rw [E.len, Nat.one_mul]) (by decide)).rd
  unfold InsertS
  refine cut_from hT i rfl (by omega) hsc (let_ (brN rfl (let_ ?_)))
  refine br beq_iff_eq (fun he => ?_) fun hne => ?_
  · have hil : i = l.length := by omega
    subst hil
    refine appAt (ys := [x]) hT H n hn hv (by simpa using hlen) (by simp; omega) fun s' h' H' => hR s' h' ?_
    rwa [List.take_length, List.drop_length]
  have hil : i < l.length := by omega
  have hfl : ∀ k, (E.fl l).take (k * sz) = E.fl (l.take k) := fun k => E.fl_take l k
  rw [w64 (n := (s.n : Int) + ((1 : Nat) : Int)) (by omega) (by omega), w64 (n := (i : Int) + ((1 : Nat) : Int)) (by omega) (by omega)]
  refine brD (fun hgt => ?_) fun hle => ?_
  · -- no room
    refine cut_rd hT ho.rd 0 i s.c lo0 (hii rfl) (.inl ⟨rfl, rfl⟩) (Nat.zero_le _) (by omega) (by omega) (Nat.le_refl _) fun s3 r3 n3 c3 b3 => ?_
    rw [Nat.zero_mul, List.drop_zero, Nat.sub_zero, hfl] at r3
    rw [w64 (n := (s.n : Int) + ((1 : Nat) : Int) - (i : Int)) (by omega) (by omega)]
    refine app_zeros hT hz hzl htn r3 (s.n + 1 - i) (by omega) (by omega) (by omega) (by rw [show s3.n + (s.n + 1 - i) = l.length + 1 by omega]; exact hlen) (by omega) fun s4 h1 o4 n4 f4 e4 => ?_
    have n4' : s4.n = l.length + 1 := by omega
    have v1 : RdS h1 sz ⟨some ⟨b, 0, none⟩, 1, 1⟩ (E.fl [x]) := hv.ext' e4
    have tl : (E.fl (l.take i)).length = i * sz := by rw [E.fl_len, List.length_take, Nat.min_eq_left hi]
    refine cut_from hT i rfl (by omega) o4.2.1 ?_
    refine cpy hT o4 i 1 (by show 1 = min 1 (s4.n - i); omega) (by decide) v1 (fun u hu => E.fl_ones [x] u (List.mem_of_mem_take hu)) fun h2 o5 u5 z5 => ?_
    have as : ∀ Z, E.fl (l.take i) ++ (E.fl [x] ++ Z) = (E.fl (l.take i) ++ E.fl [x]) ++ Z := fun Z => (List.append_assoc ..).symm
    rw [List.take_left' tl, show (E.fl [x]).take (1 * sz) = E.fl [x] by rw [Nat.one_mul, List.take_of_length_le (by rw [E.fl_len]; simp)], as] at o5
    refine cut_from hT (i + 1) (by omega) (by omega) o5.2.1 ?_
    refine cut_raw hT i s.n s.c (loi rfl) (hi0 _) (.inl ⟨rfl, rfl⟩) (by omega) hsc (Nat.le_refl _) ?_
    have s4n : ∀ g, s.blk = some g → ¬ s4.blk = some g := fun g hg hg4 => by
      have h1 := ho.below g hg
      have h2 := f4 g hg4
      omega
    have o2 : Own h2 sz s (E.fl l) := (ho.ext' e4).upd u5 s4n
    have r7 : RdS h2 sz (cutSl s sz i s.n s.c) (E.fl (l.drop i)) := by
      have r := rd_cut hT o2.rd i s.n s.c (by omega) (Nat.le_refl _) hsc
      rwa [E.fl_drop, E.fl_take, List.take_of_length_le (by rw [List.length_drop]; omega)] at r
    have hdl : (E.fl (l.drop i)).length = (l.length - i) * sz := by rw [E.fl_len, List.length_drop]
    refine cpy hT o5 (i + 1) (l.length - i) (by show l.length - i = min (s.n - i) (s4.n - (i + 1)); omega) (by omega) r7 (fun u hu => E.fl_ones _ u (List.mem_of_mem_take hu)) fun h3 o6 u6 z6 => ?_
    have hxl : (E.fl (l.take i) ++ E.fl [x]).length = (i + 1) * sz := by rw [List.length_append, tl, E.fl_len, Nat.succ_mul]; simp
    rw [List.take_left' hxl, List.take_of_length_le (l := E.fl (l.drop i)) (by rw [hdl]; exact Nat.le_refl _)] at o6
    have hnil : ((E.fl (l.take i) ++ E.fl [x]) ++ List.drop ((i + 1) * sz) (E.fl (l.take i) ++ (List.replicate (s.n + 1 - i) zs).flatten)).drop ((i + 1 + (l.length - i)) * sz) = [] := by
      apply List.drop_eq_nil_of_le
      have h7 := o5.1
      rw [n4'] at h7
      rw [h7, show i + 1 + (l.length - i) = l.length + 1 by omega]
      exact Nat.le_refl _
    rw [hnil, List.append_nil, ← E.fl_app, ← E.fl_app, List.append_assoc] at o6
    have e3 : Ext h.size h h3 := (e4.trans (u5.ext (by have := e4.1; omega) fun g hg hg4 => by have := f4 g hg4; omega)).trans (u6.ext (by have := e4.1; have := u5.size; omega) fun g hg hg4 => by have := f4 g hg4; omega)
    have U : Upd (fun g => s.blk = some g) h h3 := e3.upd _
    refine hR s4 h3 (H.turn n hn (r' := .own s4 sz (E.fl (l.take i ++ x :: l.drop i))) U o6 fun g hg => .inr (f4 g hg))
  · -- there is room
    obtain ⟨zs2, hz2, o8⟩ := own_more ho (s.n + 1) (by omega) (by omega)
    rw [show s.n + 1 - s.n = 1 by omega, Nat.one_mul] at hz2
    refine cut_raw hT 0 (s.n + 1) s.c lo0 (hii (by omega)) (.inl ⟨rfl, rfl⟩) (Nat.zero_le _) (by omega) (Nat.le_refl _) ?_
    have e8 : cutSl s sz 0 (s.n + 1) s.c = ⟨s.a, s.n + 1, s.c⟩ := by
      unfold cutSl
      congr 1
      split
      · rfl
      · cases s.a with
        | none => rfl
        | some a => rw [Option.map_some, add_zero' a _ (Nat.zero_mul _)]
    rw [e8]
    have fl8 : ∀ g, (⟨s.a, s.n + 1, s.c⟩ : Sl).blk = some g ↔ s.blk = some g := fun g => Iff.rfl
    obtain ⟨g, o, ha, hcells⟩ := ho.rd.2 (by rw [E.fl_len]; exact Nat.mul_pos (by omega) E.pos)
    have hgb : b ≠ g := fun e => hbs g (by simp [Sl.blk, ha]) e.symm
    refine cut_from hT (i + 1) (by omega) (by show i + 1 ≤ s.n + 1; omega) (by show s.n + 1 ≤ s.c; omega) ?_
    have hd9 : (cutSl ⟨s.a, s.n + 1, s.c⟩ sz (i + 1) (s.n + 1) s.c).a = some ⟨g, o + (i + 1) * sz, none⟩ := by
      show (if s.c = i + 1 then s.a else s.a.map (·.add ((i + 1) * sz))) = _
      rw [if_neg (by omega), ha, Option.map_some, add_at]
    have hwr : (cellH h ⟨g, o + (i + 1) * sz, none⟩).isSome = true := by
      rcases ho.2.2.2 with ⟨_, hc0⟩ | ⟨g', o', ha', _, _, hw⟩
      · omega
      · rw [ha] at ha'
        simp only [Option.some.injEq, Addr.mk.injEq, and_true] at ha'
        obtain ⟨rfl, rfl⟩ := ha'
        refine (hw _ ?_).1
        have := mul_lt_le (a := i + 1) (n := s.c) (j := 0) (by omega) E.pos
        simpa using this
    refine ovl hO hT hb hd9 hgb hwr (brY rfl ?_)
    refine cut_from hT (i + 1) (by omega) (by show i + 1 ≤ s.n + 1; omega) (by show s.n + 1 ≤ s.c; omega) ?_
    refine cut_raw hT i (s.n + 1) s.c (loi rfl) (hi0 _) (.inl ⟨rfl, rfl⟩) (by omega) (by show s.n + 1 ≤ s.c; omega) (Nat.le_refl _) ?_
    have r11 : RdS h sz (cutSl ⟨s.a, s.n + 1, s.c⟩ sz i (s.n + 1) s.c) (E.fl (l.drop i) ++ zs2) := by
      have r := rd_cut hT o8.rd i (s.n + 1) s.c (by omega) (Nat.le_refl _) (by omega)
      rwa [List.take_of_length_le (by rw [List.length_drop, List.length_append, E.fl_len, hz2, ← Nat.succ_mul, ← Nat.sub_mul, hsn]; exact Nat.le_refl _), List.drop_append_of_le_length (by rw [E.fl_len]; exact Nat.mul_le_mul_right _ hi), E.fl_drop] at r
    have hdl : (E.fl (l.drop i)).length = (l.length - i) * sz := by rw [E.fl_len, List.length_drop]
    refine cpy hT o8 (i + 1) (l.length - i) (by show l.length - i = min (s.n + 1 - i) (s.n + 1 - (i + 1)); omega) (by omega) r11 (fun u hu => ?_) fun h2 o9 u9 z9 => ?_
    · rw [List.take_append_of_le_length (by rw [hdl]; exact Nat.le_refl _)] at hu
      exact E.fl_ones _ u (List.mem_of_mem_take hu)
    rw [List.take_append_of_le_length (l₁ := E.fl (l.drop i)) (by rw [hdl]; exact Nat.le_refl _), List.take_of_length_le (l := E.fl (l.drop i)) (by rw [hdl]; exact Nat.le_refl _)] at o9
    have hnil : (E.fl l ++ zs2).drop ((i + 1 + (l.length - i)) * sz) = [] := by
      apply List.drop_eq_nil_of_le
      rw [List.length_append, E.fl_len, hz2, ← Nat.succ_mul, show i + 1 + (l.length - i) = l.length + 1 by omega]
      exact Nat.le_refl _
    rw [hnil, List.append_nil, List.take_append_of_le_length (by rw [E.fl_len]; exact Nat.mul_le_mul_right _ hil), hfl] at o9
    refine cut_from hT i rfl (by show i ≤ s.n + 1; omega) (by show s.n + 1 ≤ s.c; omega) ?_
    have v2 : RdS h2 sz ⟨some ⟨b, 0, none⟩, 1, 1⟩ (E.fl [x]) := hv.upd u9 fun g hg hgs => by
      have hg : some b = some g := hg
      injection hg with hg
      exact hbs g hgs hg.symm
    refine cpy hT o9 i 1 (by show 1 = min 1 (s.n + 1 - i); omega) (by decide) v2 (fun u hu => E.fl_ones [x] u (List.mem_of_mem_take hu)) fun h3 o10 u10 z10 => ?_
    have tk : (E.fl (l.take (i + 1)) ++ E.fl (l.drop i)).take (i * sz) = E.fl (l.take i) := by
      rw [← E.fl_app, E.fl_take, List.take_append_of_le_length (by rw [List.length_take]; omega), List.take_take, Nat.min_eq_left (by omega)]
    have dk : (E.fl (l.take (i + 1)) ++ E.fl (l.drop i)).drop ((i + 1) * sz) = E.fl (l.drop i) := by
      rw [← E.fl_app, E.fl_drop, List.drop_left' (by rw [List.length_take]; omega)]
    rw [tk, dk, show (E.fl [x]).take (1 * sz) = E.fl [x] by rw [Nat.one_mul, List.take_of_length_le (by rw [E.fl_len]; simp)], ← E.fl_app, ← E.fl_app] at o10
    refine hR _ h3 (H.turn n hn (r' := .own ⟨s.a, s.n + 1, s.c⟩ sz (E.fl (l.take i ++ x :: l.drop i))) (u9.trans u10 (fun _ _ hg => hg) (fun _ _ hg => hg)) o10 fun g hg => .inl hg)
end
end Go.Proofs.Ytegbnmaglkpkjaa
