/-
  More rules: a literal of bytes turned into bytes, make, a store into an element of a slice that may be written.
-/
import Derived.Test.YtegbnmaglkpkjaaG
import Derived.Test.YtegbnmaglkpkjaaRc
import Derived.Laws.MakeOwn
namespace Go.Proofs.Ytegbnmaglkpkjaa
open Go

theorem frz {t u e : TypeId} {P : Program} (hT : ByteT P t u e) {h : Heap} {b : Nat} {el : TypeId} {cs : List Value} {n c : Nat} {K : Sl → Heap → Prop} (hb : Blk h b el cs)
    (hk : ∀ h', Blk h' b el cs → Upd (· = b) h h' → h'.size = h.size → K ⟨some ⟨b, 0, none⟩, n, c⟩ h') : Frz P t t ⟨some ⟨b, 0, none⟩, n, c⟩ h K := by
  intro w hw
  obtain ⟨fz, hcell, hfz⟩ := hb
  have hbl : w.heap[b]? = some (.cells cs.toArray el fz) := by rw [hw]; exact hcell
  have hs : w.shape? b = some (el, cs.length) := by unfold World.shape?; rw [hbl]; rfl
  have hrun : (convert t t (.slice (some ⟨b, 0, none⟩) n c)).run P w = .ok (.slice (some ⟨b, 0, none⟩) n c) (w.freeze ⟨b, cs.length, none⟩ 1) := by
    simp [convert, run_underlying hT.slc, run_underlying hT.elm, markStringish, hs]
  refine ⟨_, _, hrun, ⟨rfl, rfl, rfl⟩, ((⟨some ⟨b, 0, none⟩, n, c⟩ : Sl), ()), rfl, ?_⟩
  refine hk _ ⟨(cs.length, cs.length + 1), ?_, .inr rfl⟩ ⟨?_, fun k hk hn => ?_⟩ ?_
  · show (w.heap.modify b _)[b]? = _
    rw [Array.getElem?_modify, if_pos rfl, hbl]
    rcases hfz with rfl | rfl
    · rfl
    · simp
  · show h.size ≤ (w.heap.modify b _).size
    rw [Array.size_modify, hw]; exact Nat.le_refl _
  · show (w.heap.modify b _)[k]? = h[k]?
    rw [Array.getElem?_modify, if_neg (fun e => hn e.symm), hw]
  · show (w.heap.modify b _).size = h.size
    rw [Array.size_modify, hw]

/-- The cells of a type's zero. -/
structure ZeroT (P : Program) (e : TypeId) (zs : List Value) : Prop where
  z : (P.info? e).bind (fun i => i.zero.map (·.cells)) = some zs.toArray
theorem made_eq (zs : List Value) (c : Nat) (hp : 0 < zs.length) : madeCells zs.toArray (c * zs.length) = ((List.replicate c zs).flatten).toArray := by
  have e : (List.replicate c zs).flatten = (List.range c).flatMap fun _ => zs := by
    rw [List.flatMap_def]
    congr 1
    apply List.ext_getElem (by simp)
    intro i h1 h2
    simp
  rw [e]
  apply Array.ext
  · rw [size_madeCells, List.size_toArray, flat_len (fun _ => zs) zs.length (fun _ => rfl), List.length_range]
  · intro i h1 h2
    rw [size_madeCells] at h1
    have hi : i / zs.length < c := Nat.div_lt_of_lt_mul (by rw [Nat.mul_comm]; exact h1)
    have hr : i % zs.length < zs.length := Nat.mod_lt _ hp
    have hii : i / zs.length * zs.length + i % zs.length = i := by rw [Nat.mul_comm]; exact Nat.div_add_mod i _
    have h3 := flat_get (fun _ : Nat => zs) zs.length (fun _ => rfl) (List.range c) (i / zs.length) (i % zs.length) (by simpa using hi) hr
    rw [hii] at h3
    have h4 : ((List.range c).flatMap fun _ => zs)[i]? = some zs[i % zs.length] := by rw [h3, List.getElem?_eq_getElem hr]
    have h2' : i < ((List.range c).flatMap fun _ => zs).length := by simpa using h2
    have h5 : ((List.range c).flatMap fun _ => zs).toArray[i] = zs[i % zs.length] := by
      rw [List.getElem?_eq_getElem h2'] at h4
      injection h4
    rw [h5]
    simp [madeCells, getElem!_pos, hr]
theorem mk {P : Program} {t e : TypeId} {sz by_ : Nat} {zs : List Value} (hT : ElemT P t e sz by_) (hz : ZeroT P e zs) {l c : Int} {h : Heap} {K : Sl → Heap → Prop} (l' c' : Nat) (hl : l = (l' : Int)) (hc : c = (c' : Int)) (hlc : l' ≤ c') (hby : by_ * c' ≤ 281474976710656)
    (h63 : c' ≤ 9223372036854775807) (hk : ∀ h', Blk h' h.size e (List.replicate c' zs).flatten → Ext h.size h h' → h'.size = h.size + 1 → K ⟨some ⟨h.size, 0, none⟩, l', c'⟩ h') : Mk P t l c h K := by
  subst hl hc
  obtain ⟨hu, ⟨i, z, hi, hzz, hsz, hbb, hzs⟩, hpos⟩ := hT
  have hz1 : z.cells = zs.toArray := by
    have := hz.z
    rw [hi] at this
    simp only [Option.bind_some, hzz, Option.map_some, Option.some.injEq] at this
    exact this
  have hlz : zs.length = sz := by rw [← hzs, hz1]; simp
  intro w hw
  have hr := run_make (P := P) w t e i z hu hi hzz .i64 .i64 (l' : Int) (c' : Int) (by omega) (by omega) (by rw [hbb]; have := Int.ofNat_le.2 hby; rw [Int.natCast_mul] at this; exact this) (by omega)
  rw [hz1, hsz, Int.toNat_natCast, Int.toNat_natCast, ← hlz, made_eq _ _ (by omega), hw] at hr
  refine ⟨_, _, hr, ⟨rfl, rfl, rfl⟩, ((⟨some ⟨h.size, 0, none⟩, l', c'⟩ : Sl), ()), rfl, ?_⟩
  show K _ (w.heap.push _)
  rw [hw]
  exact hk _ (Blk.new h e _) (ext_push h _ (Nat.le_refl _)) (by simp)

theorem setH_same {h : Heap} {a : Addr} {v x : Value} (hc : cellH h a = some x) : cellH (setH h a v) a = some v := World.cell?_setCell_same (mkW h) a v hc
theorem setH_other (h : Heap) {a b : Addr} (v : Value) (hn : a ≠ b) : cellH (setH h a v) b = cellH h b := World.cell?_setCell_other (mkW h) a b v hn
theorem setH_frozen (h : Heap) (a b : Addr) (v : Value) : frozenH (setH h a v) b = frozenH h b := World.frozen?_setCell (mkW h) a b v
/-- A store into a cell of a slice that may be written. -/
theorem setO {h : Heap} {sz : Nat} {s : Sl} {xs : List Value} {i : Int} {j : Nat} {v : Value} {K : Heap → Prop} (ho : Own h sz s xs) (k : Nat) (hi : i = (k : Int)) (hk : k < s.n) (hj : j < sz)
    (hK : ∀ h', Own h' sz s (xs.set (k * sz + j) v) → Upd (fun g => s.blk = some g) h h' → h'.size = h.size → K h') : Ix s i sz fun e => St h (e.add j) v K := by
  subst hi
  obtain ⟨h1, h2, h3, h4⟩ := ho
  have hks : k * sz + sz ≤ s.n * sz := by rw [← Nat.succ_mul]; exact Nat.mul_le_mul_right _ hk
  have hkj : k * sz + j < s.n * sz := by omega
  have hnc : s.n * sz ≤ s.c * sz := Nat.mul_le_mul_right _ h2
  rcases h4 with ⟨_, hc⟩ | ⟨g, o, ha, hg, hx, hw⟩
  · omega
  refine ⟨⟨g, o, none⟩, ha, by omega, by omega, ?_⟩
  obtain ⟨w1, w2⟩ := hw (k * sz + j) (by omega)
  have hadd : ((⟨g, o, none⟩ : Addr).add ((k : Int).toNat * sz)).add j = ⟨g, o + (k * sz + j), none⟩ := by rw [add0, add0, Int.toNat_natCast, Nat.add_assoc]
  show St h (((⟨g, o, none⟩ : Addr).add ((k : Int).toNat * sz)).add j) v K
  rw [hadd]
  obtain ⟨x, hx1⟩ := Option.isSome_iff_exists.1 w1
  refine ⟨w1, w2, hK _ ⟨by rw [List.length_set]; exact h1, h2, h3, .inr ⟨g, o, ha, by rw [setH_size]; exact hg, fun q hq => ?_, fun q hq => ?_⟩⟩ ⟨by rw [setH_size]; exact Nat.le_refl _, fun q hq hn => setH_get _ _ _ fun e => hn (by simp [Sl.blk, ha, e])⟩ (setH_size ..)⟩
  · rw [List.length_set] at hq
    rw [List.getElem?_set]
    by_cases hqk : k * sz + j = q
    · subst hqk
      rw [if_pos rfl, if_pos hq, setH_same hx1]
    · rw [if_neg hqk, setH_other _ _ (by intro e; injection e with _ e2 _; omega)]
      exact hx q hq
  · obtain ⟨y1, y2⟩ := hw q hq
    rw [setH_frozen]
    refine ⟨?_, y2⟩
    by_cases hqk : k * sz + j = q
    · subst hqk
      rw [setH_same hx1]; rfl
    · rw [setH_other _ _ (by intro e; injection e with _ e2 _; omega)]
      exact y1
theorem setO0 {h : Heap} {sz : Nat} {s : Sl} {xs : List Value} {i : Int} {v : Value} {K : Heap → Prop} (ho : Own h sz s xs) (k : Nat) (hi : i = (k : Int)) (hk : k < s.n) (hj : 0 < sz)
    (hK : ∀ h', Own h' sz s (xs.set (k * sz) v) → Upd (fun g => s.blk = some g) h h' → h'.size = h.size → K h') : Ix s i sz fun e => St h e v K :=
  setO (j := 0) ho k hi hk hj hK
theorem Own.below {h : Heap} {sz : Nat} {s : Sl} {xs : List Value} (ho : Own h sz s xs) : s.below h.size := fun g hg => by
  obtain ⟨_, _, _, hh⟩ := ho
  rcases hh with ⟨ha, _⟩ | ⟨g', o, ha, hlt, _⟩
  · rw [Sl.blk, ha] at hg; cases hg
  · rw [Sl.blk, ha] at hg; injection hg with hg; rw [← hg]; exact hlt
end Go.Proofs.Ytegbnmaglkpkjaa
