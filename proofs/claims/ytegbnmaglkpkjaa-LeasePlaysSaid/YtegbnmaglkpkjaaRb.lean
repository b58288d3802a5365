/-
  More rules: slices cut, strings and bytes turned into one another, make, equality of slices' lengths; bytes as cells.
-/
import Derived.Test.YtegbnmaglkpkjaaRa
import Derived.Laws.Strings
namespace Go.Proofs.Ytegbnmaglkpkjaa
open Go

/-! ## Cutting -/
def LoIs (lo : Option Value) (l : Nat) : Prop := (lo = none ∧ l = 0) ∨ ∃ k i, lo = some (.int k i) ∧ i = (l : Int)
def HiIs (hi : Option Value) (n u : Nat) : Prop := (hi = none ∧ u = n) ∨ ∃ k i, hi = some (.int k i) ∧ i = (u : Int)
theorem lo0 : LoIs none 0 := .inl ⟨rfl, rfl⟩
theorem loi {k : IntKind} {i : Int} {l : Nat} (h : i = (l : Int)) : LoIs (some (.int k i)) l := .inr ⟨_, _, rfl, h⟩
theorem hi0 (n : Nat) : HiIs none n n := .inl ⟨rfl, rfl⟩
theorem hii {k : IntKind} {i : Int} {n u : Nat} (h : i = (u : Int)) : HiIs (some (.int k i)) n u := .inr ⟨_, _, rfl, h⟩
section
variable {P : Program}
theorem sb_run {x : Value} {y : Nat} {code : BoundsCode} {k : IntKind} {l : Nat} (hx : x = .int k (l : Int)) (hl : l ≤ y) (w : World) : (Instr.sliceBound x y code).run P w = .ok l w := by
  subst hx
  have h1 : (0 : Int) ≤ l ∧ (l : Int) ≤ y := by omega
  simp [Instr.sliceBound, asIntOf, h1]
theorem sbs_run {b : Bool} {len cap l u m : Nat} {lo hi mx : Option Value} (hlo : LoIs lo l) (hhi : HiIs hi len u) (hmx : (mx = none ∧ m = cap) ∨ (HiIs mx cap m ∧ hi ≠ none)) (h1 : l ≤ u) (h2 : u ≤ m) (h3 : m ≤ cap) (w : World) :
    (Instr.sliceBounds b len cap lo hi mx).run P w = .ok (l, u, m) w := by
  have step3 : ∀ (M : Nat) (c : BoundsCode), (match lo with
      | some v => Instr.sliceBound v u c
      | none => pure 0 : Sem Nat).run P w = .ok l w := fun M c => by
    rcases hlo with ⟨rfl, rfl⟩ | ⟨k, i, rfl, rfl⟩
    · rfl
    · exact sb_run rfl h1 w
  unfold Instr.sliceBounds
  rcases hmx with ⟨rfl, rfl⟩ | ⟨hmx, hne⟩
  · rcases hhi with ⟨rfl, rfl⟩ | ⟨k, i, rfl, rfl⟩
    · rcases hlo with ⟨rfl, rfl⟩ | ⟨k, i, rfl, rfl⟩
      · simp
      · simp [sb_run (P := P) rfl h1]
    · rcases hlo with ⟨rfl, rfl⟩ | ⟨k, i, rfl, rfl⟩
      · simp [sb_run (P := P) rfl h2]
      · simp [sb_run (P := P) rfl h1, sb_run (P := P) rfl h2]
  · rcases hmx with ⟨rfl, rfl⟩ | ⟨k', i', rfl, rfl⟩
    · rcases hhi with ⟨rfl, _⟩ | ⟨k, i, rfl, rfl⟩
      · exact absurd rfl hne
      · rcases hlo with ⟨rfl, rfl⟩ | ⟨k, i, rfl, rfl⟩
        · simp [sb_run (P := P) rfl h2]
        · simp [sb_run (P := P) rfl h1, sb_run (P := P) rfl h2]
    · rcases hhi with ⟨rfl, _⟩ | ⟨k, i, rfl, rfl⟩
      · exact absurd rfl hne
      · rcases hlo with ⟨rfl, rfl⟩ | ⟨k, i, rfl, rfl⟩
        · simp [sb_run (P := P) rfl h2, sb_run (P := P) rfl h3]
        · simp [sb_run (P := P) rfl h1, sb_run (P := P) rfl h2, sb_run (P := P) rfl h3]

def cutSl (s : Sl) (sz l u m : Nat) : Sl := ⟨if m = l then s.a else s.a.map (·.add (l * sz)), u - l, m - l⟩
theorem cutSl_blk (s : Sl) (sz l u m : Nat) : (cutSl s sz l u m).blk = s.blk := by
  unfold cutSl Sl.blk
  simp only
  split
  · rfl
  · cases s.a with
    | none => rfl
    | some a => simp only [Option.map_some, Addr.add]; split <;> rfl
theorem cut_raw {t e : TypeId} {sz by_ : Nat} (hT : ElemT P t e sz by_) {s : Sl} {lo hi mx : Option Value} {K : Sl → Prop} (l u m : Nat) (hlo : LoIs lo l) (hhi : HiIs hi s.n u)
    (hmx : (mx = none ∧ m = s.c) ∨ (HiIs mx s.c m ∧ hi ≠ none)) (h1 : l ≤ u) (h2 : u ≤ m) (h3 : m ≤ s.c) (hk : K (cutSl s sz l u m)) : Cut P t s lo hi mx K := by
  obtain ⟨hu, ⟨i, z, hi', hz, hsz, _, _⟩, _⟩ := hT
  refine ⟨(cutSl s sz l u m, ()), fun w => ?_, hk⟩
  simp only [Instr.sliceAt, Sem.run_bind, run_underlying hu, Result.andThen_ok, Instr.slice, sbs_run hlo hhi hmx h1 h2 h3, info_run hi', hsz]
  rfl
theorem add_zero' (a : Addr) (n : Nat) (h : n = 0) : a.add n = a := by unfold Addr.add; rw [if_pos h]
theorem add_at (g o n : Nat) : (⟨g, o, none⟩ : Addr).add n = ⟨g, o + n, none⟩ := by
  unfold Addr.add; split
  · rename_i e; rw [e]; rfl
  · rfl
/-- A cut that is read. -/
theorem cut_rd {t e : TypeId} {sz by_ : Nat} (hT : ElemT P t e sz by_) {s : Sl} {h : Heap} {xs : List Value} {lo hi mx : Option Value} {K : Sl → Prop} (hr : RdS h sz s xs) (l u m : Nat) (hlo : LoIs lo l) (hhi : HiIs hi s.n u)
    (hmx : (mx = none ∧ m = s.c) ∨ (HiIs mx s.c m ∧ hi ≠ none)) (h1 : l ≤ u) (hu : u ≤ s.n) (h2 : u ≤ m) (h3 : m ≤ s.c)
    (hk : ∀ s', RdS h sz s' ((xs.drop (l * sz)).take ((u - l) * sz)) → s'.n = u - l → s'.c = m - l → s'.blk = s.blk → K s') : Cut P t s lo hi mx K := by
  refine cut_raw hT l u m hlo hhi hmx h1 h2 h3 (hk _ ⟨?_, fun hp => ?_⟩ rfl rfl (cutSl_blk ..))
  · have e1 : (u - l) * sz + l * sz ≤ s.n * sz := by rw [← Nat.add_mul]; exact Nat.mul_le_mul_right _ (by omega)
    rw [List.length_take, List.length_drop, hr.1]
    show min ((u - l) * sz) _ = (u - l) * sz
    omega
  · have hpos := hT.pos
    rw [List.length_take, List.length_drop] at hp
    obtain ⟨g, o, ha, hx⟩ := hr.2 (by omega)
    have hne : m ≠ l := fun e => by
      have : u - l = 0 := by omega
      rw [this] at hp; simp at hp
    refine ⟨g, o + l * sz, by simp only [cutSl]; rw [if_neg hne, ha]; simp [add_at], fun j hj => ?_⟩
    rw [List.length_take, List.length_drop] at hj
    rw [Nat.add_assoc, hx _ (by omega), List.getElem?_take, if_pos (by omega), List.getElem?_drop]
/-- A cut that may be written. -/
theorem cut_own {t e : TypeId} {sz by_ : Nat} (hT : ElemT P t e sz by_) {s : Sl} {h : Heap} {xs : List Value} {lo hi mx : Option Value} {K : Sl → Prop} (hr : Own h sz s xs) (l u m : Nat) (hlo : LoIs lo l) (hhi : HiIs hi s.n u)
    (hmx : (mx = none ∧ m = s.c) ∨ (HiIs mx s.c m ∧ hi ≠ none)) (h1 : l ≤ u) (hu : u ≤ s.n) (h2 : u ≤ m) (h3 : m ≤ s.c)
    (hk : ∀ s', Own h sz s' ((xs.drop (l * sz)).take ((u - l) * sz)) → s'.n = u - l → s'.c = m - l → s'.blk = s.blk → K s') : Cut P t s lo hi mx K := by
  obtain ⟨hl, hnc, hc63, hh⟩ := hr
  have e1 : (u - l) * sz + l * sz ≤ s.n * sz := by rw [← Nat.add_mul]; exact Nat.mul_le_mul_right _ (by omega)
  have e2 : (m - l) * sz + l * sz ≤ s.c * sz := by rw [← Nat.add_mul]; exact Nat.mul_le_mul_right _ (by omega)
  refine cut_raw hT l u m hlo hhi hmx h1 h2 h3 (hk _ ⟨?_, by show u - l ≤ m - l; omega, by show m - l ≤ _; omega, ?_⟩ rfl rfl (cutSl_blk ..))
  · rw [List.length_take, List.length_drop, hl]
    show min ((u - l) * sz) _ = (u - l) * sz
    omega
  · rcases hh with ⟨ha, hc0⟩ | ⟨g, o, ha, hg, hx, hw⟩
    · exact .inl ⟨by simp [cutSl, ha], by show m - l = 0; omega⟩
    · right
      by_cases hne : m = l
      · refine ⟨g, o, by simp only [cutSl]; rw [if_pos hne, ha], hg, fun j hj => ?_, fun j hj => ?_⟩
        · rw [List.length_take, show u - l = 0 by omega] at hj; simp at hj
        · have : (cutSl s sz l u m).c = 0 := by show m - l = 0; omega
          rw [this] at hj; simp at hj
      · refine ⟨g, o + l * sz, by simp only [cutSl]; rw [if_neg hne, ha]; simp [add_at], hg, fun j hj => ?_, fun j hj => ?_⟩
        · rw [List.length_take, List.length_drop] at hj
          rw [Nat.add_assoc, hx _ (by omega), List.getElem?_take, if_pos (by omega), List.getElem?_drop]
        · have hj' : j < (m - l) * sz := hj
          rw [Nat.add_assoc]
          exact hw _ (by omega)
/-- A string that is cut. -/
theorem cutS {t : TypeId} (hT : P.underlying t = some .string) {s : ByteArray} {lo hi : Option Value} {K : ByteArray → Prop} (l u : Nat) (hlo : LoIs lo l) (hhi : HiIs hi s.size u) (h1 : l ≤ u) (h2 : u ≤ s.size)
    (hk : K (s.extract l u)) : CutS P t s lo hi K := by
  refine ⟨(s.extract l u, ()), fun w => ?_, hk⟩
  simp only [Instr.sliceAt, Sem.run_bind, run_underlying hT, Result.andThen_ok, Instr.slice]
  rw [if_neg (by simp)]
  simp only [Sem.run_bind, sbs_run (b := false) hlo hhi (.inl ⟨rfl, rfl⟩) h1 h2 (Nat.le_refl _), Result.andThen_ok]
  rfl
end

/-! ## A slice that grows -/
structure Grw (h : Heap) (s : Sl) (h' : Heap) (s' : Sl) : Prop where
  upd : Upd (fun k => s.blk = some k) h h'
  blk : s'.blk = s.blk ∨ s'.from_ h.size
theorem Grw.refl (h : Heap) (s : Sl) : Grw h s h s := ⟨Upd.refl _ _, .inl rfl⟩
theorem Grw.trans {a b c : Heap} {s t u : Sl} (h1 : Grw a s b t) (h2 : Grw b t c u) : Grw a s c u := by
  refine ⟨h1.upd.trans h2.upd (fun k _ x => x) fun k hk x => ?_, ?_⟩
  · rcases h1.blk with e | e
    · rw [← e]; exact x
    · have := e k x; omega
  · rcases h2.blk with e | e
    · rcases h1.blk with e1 | e1
      · exact .inl (e.trans e1)
      · exact .inr fun g hg => e1 g (by rw [← e]; exact hg)
    · exact .inr fun g hg => Nat.le_trans h1.upd.size (e g hg)
theorem Grw.of_ext {a b : Heap} (s : Sl) (h : Ext a.size a b) : Grw a s b s := ⟨h.upd _, .inl rfl⟩
theorem Grw.ext {a b : Heap} {s t : Sl} {B : Nat} (h : Grw a s b t) (hs : s.from_ B) (hB : B ≤ a.size) : Ext B a b := h.upd.ext hB fun k hk x => by have := hs k x; omega
theorem Grw.from_ {a b : Heap} {s t : Sl} {B : Nat} (h : Grw a s b t) (hs : s.from_ B) (hB : B ≤ a.size) : t.from_ B := by
  rcases h.blk with e | e
  · intro g hg; exact hs g (by rw [← e]; exact hg)
  · intro g hg; exact Nat.le_trans hB (e g hg)

/-! ## Bytes -/
/-- Bytes as cells; a text out of bytes. -/
def cB (l : List UInt8) : List Value := l.map fun b => .int .u8 b.toNat
def strB (l : List UInt8) : ByteArray := ⟨l.toArray⟩
theorem cB_append (a b : List UInt8) : cB (a ++ b) = cB a ++ cB b := by simp [cB]
theorem cB_length (l : List UInt8) : (cB l).length = l.length := by simp [cB]
theorem cB_one {l : List UInt8} : ∀ u ∈ cB l, u.oneCell' = true := by
  intro u hu
  obtain ⟨b, _, rfl⟩ := List.mem_map.1 hu
  rfl
theorem cB_take (l : List UInt8) (n : Nat) : (cB l).take n = cB (l.take n) := by simp [cB]
theorem cB_drop (l : List UInt8) (n : Nat) : (cB l).drop n = cB (l.drop n) := by simp [cB]
theorem byteCells_eq (s : ByteArray) : byteCells s = cB s.data.toList := rfl
theorem strB_size (l : List UInt8) : (strB l).size = l.length := by simp [strB, ByteArray.size]
theorem strB_data (l : List UInt8) : (strB l).data.toList = l := by simp [strB]
theorem strB_of (s : ByteArray) : strB s.data.toList = s := by cases s; simp [strB]
theorem strB_append (a b : List UInt8) : strB a ++ strB b = strB (a ++ b) := by
  have : (strB a ++ strB b).data = (strB (a ++ b)).data := by
    rw [ByteArray.data_append]; simp [strB]
  cases h1 : strB a ++ strB b; cases h2 : strB (a ++ b); rw [h1, h2] at this; simp only at this; rw [this]
theorem strB_toList (l : List UInt8) : (strB l).toList = l := by
  rw [ByteArray.toList_eq]; simp [strB]

/-! ## Bytes and texts turned into one another -/
section
variable {P : Program}
structure ByteT (P : Program) (t u e : TypeId) : Prop where
  slc : P.underlying t = some (.slice e)
  str : P.underlying u = some .string
  elm : P.underlying e = some (.int .u8)
def byteB (P : Program) (t u e : TypeId) : Bool :=
  (match P.underlying t with
    | some (.slice e') => Nat.beq e' e
    | _ => false) && isStr (P.underlying u) &&
  (match P.underlying e with
    | some (.int .u8) => true
    | _ => false)
theorem ByteT.of {t u e : TypeId} (h : byteB P t u e = true) : ByteT P t u e := by
  unfold byteB at h
  simp only [Bool.and_eq_true] at h
  obtain ⟨⟨h1, h2⟩, h3⟩ := h
  refine ⟨?_, ?_, ?_⟩
  · split at h1
    · rename_i e' he; rw [he, Nat.eq_of_beq_eq_true h1]
    · cases h1
  · unfold isStr at h2; split at h2
    · assumption
    · cases h2
  · split at h3
    · assumption
    · cases h3
theorem loadCells_run {h : Heap} {g o : Nat} {xs : List Value} (hx : ∀ j, j < xs.length → cellH h ⟨g, o + j, none⟩ = xs[j]?) (w : World) (hw : w.heap = h) :
    (loadCells ⟨g, o, none⟩ xs.length).run P w = .ok xs.toArray w := by
  have := run_firstCells_some (P := P) w 1 xs.length ⟨g, o, none⟩ xs.length xs.length xs (by simp) fun j u hj => by
    have hjl : j < xs.length := (List.getElem?_eq_some_iff.1 hj).1
    rw [Addr.add_lit, cell_eq, hw, hx j hjl, hj]
  simpa [Builtin.firstCells] using this
theorem foldl_bytes : ∀ (l : List UInt8) (s : ByteArray), ((l.map fun b => (b.toNat : Int)).foldl (fun r n => r.push (UInt8.ofNat n.toNat)) s) = ⟨s.data ++ l.toArray⟩
  | [], s => by cases s; simp
  | b :: l, s => by
    simp only [List.map_cons, List.foldl_cons, Int.toNat_natCast, UInt8.ofNat_toNat]
    rw [foldl_bytes l]
    congr 1
    cases s
    apply Array.ext'
    simp [ByteArray.push]
theorem extract_strB (l : List UInt8) (i j : Nat) : (strB l).extract i j = strB ((l.drop i).take (j - i)) := by
  apply ByteArray.ext
  rw [ByteArray.data_extract]
  apply Array.ext'
  simp [strB, List.take_drop]
theorem strB_inj {a b : List UInt8} (h : strB a = strB b) : a = b := by
  have := congrArg (fun x => x.data.toList) h
  simpa [strB] using this
theorem toS {t u e : TypeId} (hT : ByteT P t u e) {s : Sl} {h : Heap} {l : List UInt8} {K : ByteArray → Prop} (hr : RdS h 1 s (cB l)) (hk : K (strB l)) : ToS P t u s h K := by
  refine ⟨(strB l, ()), fun w hw => ⟨w, ?_, Env.refl w, hw⟩, hk⟩
  have hlen : l.length = s.n := by have := hr.1; rw [cB_length] at this; omega
  have e1 : (convert t u (.slice s.a s.n s.c)).run P w = (Conv.bytesToString (.slice s.a s.n s.c)).run P w := by
    cases ha : s.a <;> simp [convert, run_underlying hT.slc, run_underlying hT.str, run_underlying hT.elm]
  rw [e1]
  cases ha : s.a with
  | none =>
    have : l = [] := by
      apply List.eq_nil_of_length_eq_zero
      apply Nat.eq_zero_of_not_pos
      intro hp
      obtain ⟨g, o, ha', _⟩ := hr.2 (by rw [cB_length]; exact hp)
      rw [ha] at ha'; cases ha'
    subst this
    simp [Conv.bytesToString, retV, Sh.mk, Kd.mk, strB]
    rfl
  | some a =>
    by_cases hp : 0 < l.length
    · obtain ⟨g, o, ha', hx⟩ := hr.2 (by rw [cB_length]; exact hp)
      rw [ha] at ha'; injection ha' with ha'; subst ha'
      have h2 := loadCells_run (P := P) hx w hw
      rw [cB_length, hlen] at h2
      have h3 : (cB l).toArray = ((l.map fun b => (b.toNat : Int)).map (Value.int .u8)).toArray := by simp [cB]
      rw [h3] at h2
      rw [run_bytesToString w _ _ s.c _ h2, foldl_bytes]
      simp [retV, Sh.mk, Kd.mk, strB]
    · have : l = [] := List.eq_nil_of_length_eq_zero (by omega)
      subst this
      have hn : s.n = 0 := by simpa using hlen.symm
      rw [hn]
      have h2 : (loadCells a 0).run P w = .ok (([] : List Int).map (Value.int .u8)).toArray w := by simp [loadCells, loadCellsFrom]
      rw [run_bytesToString w _ _ s.c _ h2]
      simp [retV, Sh.mk, Kd.mk, strB]
      rfl
theorem modify_push_ (xs : Array Obj) (a : Obj) (f : Obj → Obj) : (xs.push a).modify xs.size f = xs.push (f a) := by
  apply Array.ext (by simp)
  intro i h1 h2
  rw [Array.getElem_modify]
  split
  · rename_i e; subst e; simp
  · rename_i e
    simp only [Array.getElem_push]
    split
    · rfl
    · simp at h2; omega
theorem toB {t u e : TypeId} (hT : ByteT P t u e) {s : ByteArray} {h : Heap} {K : Sl → Heap → Prop} (hsz : s.size ≤ 4611686018427387903)
    (hk : ∀ s' h', Own h' 1 s' (cB s.data.toList) → s'.n = s.size → Ext h.size h h' → s'.from_ h.size → K s' h') : ToB P u t s h K := by
  intro w hw
  have e1 : (convert u t (.string s)).run P w = (Conv.stringToBytes e s).run P w := by
    simp [convert, run_underlying hT.slc, run_underlying hT.str, run_underlying hT.elm]
  have hq : ∀ t, Question.cut (.appendCap s.size 0 e) t = s.size + t % (2 ^ 63 - s.size) := fun _ => rfl
  generalize hG : Question.cut (.appendCap s.size 0 e) (w.tape w.drawn (.appendCap s.size 0 e)) = G
  have hG1 : s.size ≤ G := by rw [← hG, hq]; omega
  have hG2 : G ≤ 9223372036854775807 := by
    rw [← hG, hq]
    have := Nat.mod_lt (w.tape w.drawn (.appendCap s.size 0 e)) (show 0 < 2 ^ 63 - s.size by omega)
    omega
  let cs : List Value := cB s.data.toList ++ List.replicate (G - s.size) (.int .u8 0)
  have hcl : cs.length = G := by
    have : s.data.toList.length = s.size := rfl
    simp only [cs, List.length_append, cB_length, List.length_replicate, this]; omega
  have hrun : (Conv.stringToBytes e s).run P w = .ok (.slice (some ⟨w.heap.size, 0, none⟩) s.size G) { w with drawn := w.drawn + 1, heap := w.heap.push (.cells cs.toArray e (cs.length, cs.length + 1)) } := by
    unfold Conv.stringToBytes
    have h1 : ∀ f : Nat → Sem Value, ((choose (.appendCap s.size 0 e)) >>= f).run P w = (f G).run P { w with drawn := w.drawn + 1 } := fun f => by
      show (Sem.choose (.appendCap s.size 0 e) _).run P w = _
      simp only [Sem.run, Question.forced, hG]
      rfl
    rw [h1]
    have harr : (s.data.map fun b => Value.int .u8 (b.toNat : Int)) ++ Array.replicate (G - s.size) (Value.int .u8 0) = cs.toArray := by
      apply Array.ext'
      simp [cs, cB]
    have h2 : ∀ f : Addr → Sem Value, ((newRow e cs.toArray) >>= f).run P { w with drawn := w.drawn + 1 } = (f ⟨w.heap.size, 0, none⟩).run P { w with drawn := w.drawn + 1, heap := w.heap.push (.cells cs.toArray e) } := fun f => rfl
    simp only [harr]
    rw [h2]
    simp only [markStringish, Sem.run_bind]
    have h3 : (shape w.heap.size).run P { w with drawn := w.drawn + 1, heap := w.heap.push (.cells cs.toArray e) } = .ok (some (e, cs.length)) { w with drawn := w.drawn + 1, heap := w.heap.push (.cells cs.toArray e) } := by
      simp [shape, Sem.run, World.shape?]
    rw [h3]
    simp only [Result.andThen_ok, freeze, Sem.run, World.freeze]
    rw [if_neg (by decide)]
    simp only [modify_push_]
    simp [hcl]
  refine ⟨_, _, e1.trans hrun, ⟨rfl, rfl, rfl⟩, (⟨some ⟨w.heap.size, 0, none⟩, s.size, G⟩, ()), rfl, ?_⟩
  have hb : Blk (w.heap.push (.cells cs.toArray e (cs.length, cs.length + 1))) w.heap.size e cs := ⟨_, by simp, .inr rfl⟩
  have ho := Own.of_blk hb (sz := 1) (n := s.size) (c := G) (by omega) hG1 hG2
  have ht : cs.take (s.size * 1) = cB s.data.toList := by
    have : (cB s.data.toList).length = s.size * 1 := by rw [cB_length, Nat.mul_one]; rfl
    rw [← this]; exact List.take_left
  rw [ht] at ho
  subst hw
  exact hk _ _ ho rfl (ext_push _ _ (Nat.le_refl _)) (fun g hg => by simp only [Sl.blk, Option.map_some, Option.some.injEq] at hg; omega)
end
end Go.Proofs.Ytegbnmaglkpkjaa
