/-
  Several of the proof's texts in one: Rb, G, Rc, Rd, Re, Rf, Rg, Rh, Aa, Pa, Pb, Pc.
-/
import Derived.Test.YtniojdaddolnfaaGreatMa
import Derived.Laws.Strings
import Derived.ChangeArms
import Derived.ChangeOld
import Derived.ChangeShapes
import Derived.Laws.BitsLemmas
import Derived.Laws.MakeOwn
import Derived.Lib.SliceRun
import Derived.Lib.AppendZerosOnto
import Derived.Lib.Overlaps
import Derived.Laws.LoneSync
set_option linter.unusedVariables false
set_option linter.unusedSimpArgs false

/-
  More rules: slices cut, strings and bytes turned into one another, make, equality of slices' lengths; bytes as cells.
-/
namespace Go.Proofs.YtniojdaddolnfaaGreat
open Go

/-! ## Cutting -/
def LoIs (lo : Option Value) (l : Nat) : Prop := (lo = none ∧ l = 0) ∨ ∃ k i, lo = some (.int k i) ∧ i = (l : Int)
def HiIs (hi : Option Value) (n u : Nat) : Prop := (hi = none ∧ u = n) ∨ ∃ k i, hi = some (.int k i) ∧ i = (u : Int)
theorem lo0 : LoIs none 0 := .inl ⟨rfl, rfl⟩
theorem loi {k : IntKind} {i : Int} {l : Nat} (h : i = (l : Int)) : LoIs (some (.int k i)) l := .inr ⟨_, _, rfl, h⟩
theorem hi0 (n : Nat) : HiIs none n n := .inl ⟨rfl, rfl⟩
theorem hii {k : IntKind} {i : Int} {n u : Nat} (h : i = (u : Int)) : HiIs (some (.int k i)) n u := .inr ⟨_, _, rfl, h⟩
section
variable {P : Program}
theorem sb_run {x : Value} {y : Nat} {code : BoundsCode} {k : IntKind} {l : Nat} (hx : x = .int k (l : Int)) (hl : l ≤ y) (w : World) : (Instr.sliceBound x y code).run P w = .ok l w := by
  subst hx
  have h1 : (0 : Int) ≤ l ∧ (l : Int) ≤ y := by omega
  simp [Instr.sliceBound, asIntOf, h1]
theorem sbs_run {b : Bool} {len cap l u m : Nat} {lo hi mx : Option Value} (hlo : LoIs lo l) (hhi : HiIs hi len u) (hmx : (mx = none ∧ m = cap) ∨ (HiIs mx cap m ∧ hi ≠ none)) (h1 : l ≤ u) (h2 : u ≤ m) (h3 : m ≤ cap) (w : World) :
    (Instr.sliceBounds b len cap lo hi mx).run P w = .ok (l, u, m) w := by
  have step3 : ∀ (M : Nat) (c : BoundsCode), (match lo with
      | some v => Instr.sliceBound v u c
      | none => pure 0 : Sem Nat).run P w = .ok l w := fun M c => by
    rcases hlo with ⟨rfl, rfl⟩ | ⟨k, i, rfl, rfl⟩
    · rfl
    · exact sb_run rfl h1 w
  unfold Instr.sliceBounds
  rcases hmx with ⟨rfl, rfl⟩ | ⟨hmx, hne⟩
  · rcases hhi with ⟨rfl, rfl⟩ | ⟨k, i, rfl, rfl⟩
    · rcases hlo with ⟨rfl, rfl⟩ | ⟨k, i, rfl, rfl⟩
      · simp
      · simp [sb_run (P := P) rfl h1]
    · rcases hlo with ⟨rfl, rfl⟩ | ⟨k, i, rfl, rfl⟩
      · simp [sb_run (P := P) rfl h2]
      · simp [sb_run (P := P) rfl h1, sb_run (P := P) rfl h2]
  · rcases hmx with ⟨rfl, rfl⟩ | ⟨k', i', rfl, rfl⟩
    · rcases hhi with ⟨rfl, _⟩ | ⟨k, i, rfl, rfl⟩
      · exact absurd rfl hne
      · rcases hlo with ⟨rfl, rfl⟩ | ⟨k, i, rfl, rfl⟩
        · simp [sb_run (P := P) rfl h2]
        · simp [sb_run (P := P) rfl h1, sb_run (P := P) rfl h2]
    · rcases hhi with ⟨rfl, _⟩ | ⟨k, i, rfl, rfl⟩
      · exact absurd rfl hne
      · rcases hlo with ⟨rfl, rfl⟩ | ⟨k, i, rfl, rfl⟩
        · simp [sb_run (P := P) rfl h2, sb_run (P := P) rfl h3]
        · simp [sb_run (P := P) rfl h1, sb_run (P := P) rfl h2, sb_run (P := P) rfl h3]

def cutSl (s : Sl) (sz l u m : Nat) : Sl := ⟨if m = l then s.a else s.a.map (·.add (l * sz)), u - l, m - l⟩
theorem cutSl_blk (s : Sl) (sz l u m : Nat) : (cutSl s sz l u m).blk = s.blk := by
  unfold cutSl Sl.blk
  simp only
  split
  · rfl
  · cases s.a with
    | none => rfl
    | some a => simp only [Option.map_some, Addr.add]; split <;> rfl
theorem cut_raw {t e : TypeId} {sz by_ : Nat} (hT : ElemT P t e sz by_) {s : Sl} {lo hi mx : Option Value} {K : Sl → Prop} (l u m : Nat) (hlo : LoIs lo l) (hhi : HiIs hi s.n u)
    (hmx : (mx = none ∧ m = s.c) ∨ (HiIs mx s.c m ∧ hi ≠ none)) (h1 : l ≤ u) (h2 : u ≤ m) (h3 : m ≤ s.c) (hk : K (cutSl s sz l u m)) : Cut P t s lo hi mx K := by
  obtain ⟨hu, ⟨i, z, hi', hz, hsz, _, _⟩, _⟩ := hT
  refine ⟨(cutSl s sz l u m, ()), fun w => ?_, hk⟩
  simp only [Instr.sliceAt, Sem.run_bind, run_underlying hu, Result.andThen_ok, Instr.slice, sbs_run hlo hhi hmx h1 h2 h3, info_run hi', hsz]
  rfl
theorem add_zero' (a : Addr) (n : Nat) (h : n = 0) : a.add n = a := by unfold Addr.add; rw [if_pos h]
theorem add_at (g o n : Nat) : (⟨g, o, none⟩ : Addr).add n = ⟨g, o + n, none⟩ := by
  unfold Addr.add; split
  · rename_i e; rw [e]; rfl
  · rfl
/-- A cut that is read. -/
theorem cut_rd {t e : TypeId} {sz by_ : Nat} (hT : ElemT P t e sz by_) {s : Sl} {h : Heap} {xs : List Value} {lo hi mx : Option Value} {K : Sl → Prop} (hr : RdS h sz s xs) (l u m : Nat) (hlo : LoIs lo l) (hhi : HiIs hi s.n u)
    (hmx : (mx = none ∧ m = s.c) ∨ (HiIs mx s.c m ∧ hi ≠ none)) (h1 : l ≤ u) (hu : u ≤ s.n) (h2 : u ≤ m) (h3 : m ≤ s.c)
    (hk : ∀ s', RdS h sz s' ((xs.drop (l * sz)).take ((u - l) * sz)) → s'.n = u - l → s'.c = m - l → s'.blk = s.blk → K s') : Cut P t s lo hi mx K := by
  refine cut_raw hT l u m hlo hhi hmx h1 h2 h3 (hk _ ⟨?_, fun hp => ?_⟩ rfl rfl (cutSl_blk ..))
  · have e1 : (u - l) * sz + l * sz ≤ s.n * sz := by rw [← Nat.add_mul]; exact Nat.mul_le_mul_right _ (by omega)
    rw [List.length_take, List.length_drop, hr.1]
    show min ((u - l) * sz) _ = (u - l) * sz
    omega
  · have hpos := hT.pos
    rw [List.length_take, List.length_drop] at hp
    obtain ⟨g, o, ha, hx⟩ := hr.2 (by omega)
    have hne : m ≠ l := fun e => by
      have : u - l = 0 := by omega
      rw [this] at hp; simp at hp
    refine ⟨g, o + l * sz, by simp only [cutSl]; rw [if_neg hne, ha]; simp [add_at], fun j hj => ?_⟩
    rw [List.length_take, List.length_drop] at hj
    rw [Nat.add_assoc, hx _ (by omega), List.getElem?_take, if_pos (by omega), List.getElem?_drop]
/-- A cut that may be written. -/
theorem cut_own {t e : TypeId} {sz by_ : Nat} (hT : ElemT P t e sz by_) {s : Sl} {h : Heap} {xs : List Value} {lo hi mx : Option Value} {K : Sl → Prop} (hr : Own h sz s xs) (l u m : Nat) (hlo : LoIs lo l) (hhi : HiIs hi s.n u)
    (hmx : (mx = none ∧ m = s.c) ∨ (HiIs mx s.c m ∧ hi ≠ none)) (h1 : l ≤ u) (hu : u ≤ s.n) (h2 : u ≤ m) (h3 : m ≤ s.c)
    (hk : ∀ s', Own h sz s' ((xs.drop (l * sz)).take ((u - l) * sz)) → s'.n = u - l → s'.c = m - l → s'.blk = s.blk → K s') : Cut P t s lo hi mx K := by
  obtain ⟨hl, hnc, hc63, hh⟩ := hr
  have e1 : (u - l) * sz + l * sz ≤ s.n * sz := by rw [← Nat.add_mul]; exact Nat.mul_le_mul_right _ (by omega)
  have e2 : (m - l) * sz + l * sz ≤ s.c * sz := by rw [← Nat.add_mul]; exact Nat.mul_le_mul_right _ (by omega)
  refine cut_raw hT l u m hlo hhi hmx h1 h2 h3 (hk _ ⟨?_, by show u - l ≤ m - l; omega, by show m - l ≤ _; omega, ?_⟩ rfl rfl (cutSl_blk ..))
  · rw [List.length_take, List.length_drop, hl]
    show min ((u - l) * sz) _ = (u - l) * sz
    omega
  · rcases hh with ⟨ha, hc0⟩ | ⟨g, o, ha, hg, hx, hw⟩
    · exact .inl ⟨by simp [cutSl, ha], by show m - l = 0; omega⟩
    · right
      by_cases hne : m = l
      · refine ⟨g, o, by simp only [cutSl]; rw [if_pos hne, ha], hg, fun j hj => ?_, fun j hj => ?_⟩
        · rw [List.length_take, show u - l = 0 by omega] at hj; simp at hj
        · have : (cutSl s sz l u m).c = 0 := by show m - l = 0; omega
          rw [this] at hj; simp at hj
      · refine ⟨g, o + l * sz, by simp only [cutSl]; rw [if_neg hne, ha]; simp [add_at], hg, fun j hj => ?_, fun j hj => ?_⟩
        · rw [List.length_take, List.length_drop] at hj
          rw [Nat.add_assoc, hx _ (by omega), List.getElem?_take, if_pos (by omega), List.getElem?_drop]
        · have hj' : j < (m - l) * sz := hj
          rw [Nat.add_assoc]
          exact hw _ (by omega)
/-- A string that is cut. -/
theorem cutS {t : TypeId} (hT : P.underlying t = some .string) {s : ByteArray} {lo hi : Option Value} {K : ByteArray → Prop} (l u : Nat) (hlo : LoIs lo l) (hhi : HiIs hi s.size u) (h1 : l ≤ u) (h2 : u ≤ s.size)
    (hk : K (s.extract l u)) : CutS P t s lo hi K := by
  refine ⟨(s.extract l u, ()), fun w => ?_, hk⟩
  simp only [Instr.sliceAt, Sem.run_bind, run_underlying hT, Result.andThen_ok, Instr.slice]
  rw [if_neg (by simp)]
  simp only [Sem.run_bind, sbs_run (b := false) hlo hhi (.inl ⟨rfl, rfl⟩) h1 h2 (Nat.le_refl _), Result.andThen_ok]
  rfl
end

/-! ## A slice that grows -/
structure Grw (h : Heap) (s : Sl) (h' : Heap) (s' : Sl) : Prop where
  upd : Upd (fun k => s.blk = some k) h h'
  blk : s'.blk = s.blk ∨ s'.from_ h.size
theorem Grw.refl (h : Heap) (s : Sl) : Grw h s h s := ⟨Upd.refl _ _, .inl rfl⟩
theorem Grw.trans {a b c : Heap} {s t u : Sl} (h1 : Grw a s b t) (h2 : Grw b t c u) : Grw a s c u := by
  refine ⟨h1.upd.trans h2.upd (fun k _ x => x) fun k hk x => ?_, ?_⟩
  · rcases h1.blk with e | e
    · rw [← e]; exact x
    · have := e k x; omega
  · rcases h2.blk with e | e
    · rcases h1.blk with e1 | e1
      · exact .inl (e.trans e1)
      · exact .inr fun g hg => e1 g (by rw [← e]; exact hg)
    · exact .inr fun g hg => Nat.le_trans h1.upd.size (e g hg)
theorem Grw.of_ext {a b : Heap} (s : Sl) (h : Ext a.size a b) : Grw a s b s := ⟨h.upd _, .inl rfl⟩
theorem Grw.ext {a b : Heap} {s t : Sl} {B : Nat} (h : Grw a s b t) (hs : s.from_ B) (hB : B ≤ a.size) : Ext B a b := h.upd.ext hB fun k hk x => by have := hs k x; omega
theorem Grw.from_ {a b : Heap} {s t : Sl} {B : Nat} (h : Grw a s b t) (hs : s.from_ B) (hB : B ≤ a.size) : t.from_ B := by
  rcases h.blk with e | e
  · intro g hg; exact hs g (by rw [← e]; exact hg)
  · intro g hg; exact Nat.le_trans hB (e g hg)

/-! ## Bytes -/
/-- Bytes as cells; a text out of bytes. -/
def cB (l : List UInt8) : List Value := l.map fun b => .int .u8 b.toNat
def strB (l : List UInt8) : ByteArray := ⟨l.toArray⟩
theorem cB_append (a b : List UInt8) : cB (a ++ b) = cB a ++ cB b := by simp [cB]
theorem cB_length (l : List UInt8) : (cB l).length = l.length := by simp [cB]
theorem cB_one {l : List UInt8} : ∀ u ∈ cB l, u.oneCell' = true := by
  intro u hu
  obtain ⟨b, _, rfl⟩ := List.mem_map.1 hu
  rfl
theorem cB_take (l : List UInt8) (n : Nat) : (cB l).take n = cB (l.take n) := by simp [cB]
theorem cB_drop (l : List UInt8) (n : Nat) : (cB l).drop n = cB (l.drop n) := by simp [cB]
theorem byteCells_eq (s : ByteArray) : byteCells s = cB s.data.toList := rfl
theorem strB_size (l : List UInt8) : (strB l).size = l.length := by simp [strB, ByteArray.size]
theorem strB_data (l : List UInt8) : (strB l).data.toList = l := by simp [strB]
theorem strB_of (s : ByteArray) : strB s.data.toList = s := by cases s; simp [strB]
theorem strB_append (a b : List UInt8) : strB a ++ strB b = strB (a ++ b) := by
  have : (strB a ++ strB b).data = (strB (a ++ b)).data := by
    rw [ByteArray.data_append]; simp [strB]
  cases h1 : strB a ++ strB b; cases h2 : strB (a ++ b); rw [h1, h2] at this; simp only at this; rw [this]
theorem strB_toList (l : List UInt8) : (strB l).toList = l := by
  rw [ByteArray.toList_eq]; simp [strB]

/-! ## Bytes and texts turned into one another -/
section
variable {P : Program}
structure ByteT (P : Program) (t u e : TypeId) : Prop where
  slc : P.underlying t = some (.slice e)
  str : P.underlying u = some .string
  elm : P.underlying e = some (.int .u8)
def byteB (P : Program) (t u e : TypeId) : Bool :=
  (match P.underlying t with
    | some (.slice e') => Nat.beq e' e
    | _ => false) && isStr (P.underlying u) &&
  (match P.underlying e with
    | some (.int .u8) => true
    | _ => false)
theorem ByteT.of {t u e : TypeId} (h : byteB P t u e = true) : ByteT P t u e := by
  unfold byteB at h
  simp only [Bool.and_eq_true] at h
  obtain ⟨⟨h1, h2⟩, h3⟩ := h
  refine ⟨?_, ?_, ?_⟩
  · split at h1
    · rename_i e' he; rw [he, Nat.eq_of_beq_eq_true h1]
    · cases h1
  · unfold isStr at h2; split at h2
    · assumption
    · cases h2
  · split at h3
    · assumption
    · cases h3
theorem loadCells_run {h : Heap} {g o : Nat} {xs : List Value} (hx : ∀ j, j < xs.length → cellH h ⟨g, o + j, none⟩ = xs[j]?) (w : World) (hw : w.heap = h) :
    (loadCells ⟨g, o, none⟩ xs.length).run P w = .ok xs.toArray w := by
  have := run_firstCells_some (P := P) w 1 xs.length ⟨g, o, none⟩ xs.length xs.length xs (by simp) fun j u hj => by
    have hjl : j < xs.length := (List.getElem?_eq_some_iff.1 hj).1
    rw [Addr.add_lit, cell_eq, hw, hx j hjl, hj]
  simpa [Builtin.firstCells] using this
theorem foldl_bytes : ∀ (l : List UInt8) (s : ByteArray), ((l.map fun b => (b.toNat : Int)).foldl (fun r n => r.push (UInt8.ofNat n.toNat)) s) = ⟨s.data ++ l.toArray⟩
  | [], s => by cases s; simp
  | b :: l, s => by
    simp only [List.map_cons, List.foldl_cons, Int.toNat_natCast, UInt8.ofNat_toNat]
    rw [foldl_bytes l]
    congr 1
    cases s
    apply Array.ext'
    simp [ByteArray.push]
theorem extract_strB (l : List UInt8) (i j : Nat) : (strB l).extract i j = strB ((l.drop i).take (j - i)) := by
  apply ByteArray.ext
  rw [ByteArray.data_extract]
  apply Array.ext'
  simp [strB, List.take_drop]
theorem strB_inj {a b : List UInt8} (h : strB a = strB b) : a = b := by
  have := congrArg (fun x => x.data.toList) h
  simpa [strB] using this
theorem toS {t u e : TypeId} (hT : ByteT P t u e) {s : Sl} {h : Heap} {l : List UInt8} {K : ByteArray → Prop} (hr : RdS h 1 s (cB l)) (hk : K (strB l)) : ToS P t u s h K := by
  refine ⟨(strB l, ()), fun w hw => ⟨w, ?_, Env.refl w, hw⟩, hk⟩
  have hlen : l.length = s.n := by have := hr.1; rw [cB_length] at this; omega
  have e1 : (convert t u (.slice s.a s.n s.c)).run P w = (Conv.bytesToString (.slice s.a s.n s.c)).run P w := by
    cases ha : s.a <;> simp [convert, run_underlying hT.slc, run_underlying hT.str, run_underlying hT.elm]
  rw [e1]
  cases ha : s.a with
  | none =>
    have : l = [] := by
      apply List.eq_nil_of_length_eq_zero
      apply Nat.eq_zero_of_not_pos
      intro hp
      obtain ⟨g, o, ha', _⟩ := hr.2 (by rw [cB_length]; exact hp)
      rw [ha] at ha'; cases ha'
    subst this
    simp [Conv.bytesToString, retV, Sh.mk, Kd.mk, strB]
    rfl
  | some a =>
    by_cases hp : 0 < l.length
    · obtain ⟨g, o, ha', hx⟩ := hr.2 (by rw [cB_length]; exact hp)
      rw [ha] at ha'; injection ha' with ha'; subst ha'
      have h2 := loadCells_run (P := P) hx w hw
      rw [cB_length, hlen] at h2
      have h3 : (cB l).toArray = ((l.map fun b => (b.toNat : Int)).map (Value.int .u8)).toArray := by simp [cB]
      rw [h3] at h2
      rw [run_bytesToString w _ _ s.c _ h2, foldl_bytes]
      simp [retV, Sh.mk, Kd.mk, strB]
    · have : l = [] := List.eq_nil_of_length_eq_zero (by omega)
      subst this
      have hn : s.n = 0 := by simpa using hlen.symm
      rw [hn]
      have h2 : (loadCells a 0).run P w = .ok (([] : List Int).map (Value.int .u8)).toArray w := by simp [loadCells, loadCellsFrom]
      rw [run_bytesToString w _ _ s.c _ h2]
      simp [retV, Sh.mk, Kd.mk, strB]
      rfl
theorem modify_push_ (xs : Array Obj) (a : Obj) (f : Obj → Obj) : (xs.push a).modify xs.size f = xs.push (f a) := by
  apply Array.ext (by simp)
  intro i h1 h2
  rw [Array.getElem_modify]
  split
  · rename_i e; subst e; simp
  · rename_i e
    simp only [Array.getElem_push]
    split
    · rfl
    · simp at h2; omega
theorem toB {t u e : TypeId} (hT : ByteT P t u e) {s : ByteArray} {h : Heap} {K : Sl → Heap → Prop} (hsz : s.size ≤ 4611686018427387903)
    (hk : ∀ s' h', Own h' 1 s' (cB s.data.toList) → s'.n = s.size → Ext h.size h h' → s'.from_ h.size → K s' h') : ToB P u t s h K := by
  intro w hw
  have e1 : (convert u t (.string s)).run P w = (Conv.stringToBytes e s).run P w := by
    simp [convert, run_underlying hT.slc, run_underlying hT.str, run_underlying hT.elm]
  have hq : ∀ t, Question.cut (.appendCap s.size 0 e) t = s.size + t % (2 ^ 63 - s.size) := fun _ => rfl
  generalize hG : Question.cut (.appendCap s.size 0 e) (w.tape w.drawn (.appendCap s.size 0 e)) = G
  have hG1 : s.size ≤ G := by rw [← hG, hq]; omega
  have hG2 : G ≤ 9223372036854775807 := by
    rw [← hG, hq]
    have := Nat.mod_lt (w.tape w.drawn (.appendCap s.size 0 e)) (show 0 < 2 ^ 63 - s.size by omega)
    omega
  let cs : List Value := cB s.data.toList ++ List.replicate (G - s.size) (.int .u8 0)
  have hcl : cs.length = G := by
    have : s.data.toList.length = s.size := rfl
    simp only [cs, List.length_append, cB_length, List.length_replicate, this]; omega
  have hrun : (Conv.stringToBytes e s).run P w = .ok (.slice (some ⟨w.heap.size, 0, none⟩) s.size G) { w with drawn := w.drawn + 1, heap := w.heap.push (.cells cs.toArray e (cs.length, cs.length + 1)) } := by
    unfold Conv.stringToBytes
    have h1 : ∀ f : Nat → Sem Value, ((choose (.appendCap s.size 0 e)) >>= f).run P w = (f G).run P { w with drawn := w.drawn + 1 } := fun f => by
      show (Sem.choose (.appendCap s.size 0 e) _).run P w = _
      simp only [Sem.run, Question.forced, hG]
      rfl
    rw [h1]
    have harr : (s.data.map fun b => Value.int .u8 (b.toNat : Int)) ++ Array.replicate (G - s.size) (Value.int .u8 0) = cs.toArray := by
      apply Array.ext'
      simp [cs, cB]
    have h2 : ∀ f : Addr → Sem Value, ((newRow e cs.toArray) >>= f).run P { w with drawn := w.drawn + 1 } = (f ⟨w.heap.size, 0, none⟩).run P { w with drawn := w.drawn + 1, heap := w.heap.push (.cells cs.toArray e) } := fun f => rfl
    simp only [harr]
    rw [h2]
    simp only [markStringish, Sem.run_bind]
    have h3 : (shape w.heap.size).run P { w with drawn := w.drawn + 1, heap := w.heap.push (.cells cs.toArray e) } = .ok (some (e, cs.length)) { w with drawn := w.drawn + 1, heap := w.heap.push (.cells cs.toArray e) } := by
      simp [shape, Sem.run, World.shape?]
    rw [h3]
    simp only [Result.andThen_ok, freeze, Sem.run, World.freeze]
    rw [if_neg (by decide)]
    simp only [modify_push_]
    simp [hcl]
  refine ⟨_, _, e1.trans hrun, ⟨rfl, rfl, rfl⟩, (⟨some ⟨w.heap.size, 0, none⟩, s.size, G⟩, ()), rfl, ?_⟩
  have hb : Blk (w.heap.push (.cells cs.toArray e (cs.length, cs.length + 1))) w.heap.size e cs := ⟨_, by simp, .inr rfl⟩
  have ho := Own.of_blk hb (sz := 1) (n := s.size) (c := G) (by omega) hG1 hG2
  have ht : cs.take (s.size * 1) = cB s.data.toList := by
    have : (cB s.data.toList).length = s.size * 1 := by rw [cB_length, Nat.mul_one]; rfl
    rw [← this]; exact List.take_left
  rw [ht] at ho
  subst hw
  exact hk _ _ ho rfl (ext_push _ _ (Nat.le_refl _)) (fun g hg => by simp only [Sl.blk, Option.map_some, Option.some.injEq] at hg; omega)
end
end Go.Proofs.YtniojdaddolnfaaGreat

/-
  What a row's reading of an argument tells of the heap: slices, element by element, and structs.
-/
namespace Go.Proofs.YtniojdaddolnfaaGreat
open Go Go.ChangeShapes Go.WideShapes

theorem flat_get {α : Type} (f : α → List Value) (sz : Nat) (hf : ∀ x, (f x).length = sz) : ∀ (xs : List α) (i j : Nat) (hi : i < xs.length), j < sz → (xs.flatMap f)[i * sz + j]? = (f xs[i])[j]?
  | [], i, j, hi, _ => by simp at hi
  | x :: xs, 0, j, _, hj => by
    simp only [List.flatMap_cons, Nat.zero_mul, Nat.zero_add, List.getElem_cons_zero]
    rw [List.getElem?_append_left (by rw [hf]; exact hj)]
  | x :: xs, i + 1, j, hi, hj => by
    have ih := flat_get f sz hf xs i j (by simpa using hi) hj
    simp only [List.flatMap_cons, List.getElem_cons_succ]
    rw [List.getElem?_append_right (by rw [hf, Nat.succ_mul]; omega), hf, show (i + 1) * sz + j - sz = i * sz + j by rw [Nat.succ_mul]; omega, ih]
theorem flat_len {α : Type} (f : α → List Value) (sz : Nat) (hf : ∀ x, (f x).length = sz) (xs : List α) : (xs.flatMap f).length = xs.length * sz := by
  induction xs with
  | nil => simp
  | cons x xs ih => simp only [List.flatMap_cons, List.length_append, hf, ih, List.length_cons, Nat.succ_mul]; omega

/-- A slice as an argument holds it. -/
structure Arg (h : Heap) (sz : Nat) (s : Sl) (cs : List Value) : Prop where
  rd : RdS h sz s cs
  le : s.n ≤ s.c
  mx : s.c ≤ 9223372036854775807
  lo : 0 < s.c → s.below h.size
theorem Arg.keep {h h' : Heap} {sz : Nat} {s : Sl} {cs : List Value} (ha : Arg h sz s cs) {B : Nat} (he : Ext B h h') (hB : h.size ≤ B) : Arg h' sz s cs :=
  ⟨ha.rd.keep fun g _ hl => he.2 g (by omega), ha.le, ha.mx, fun hc g hg => Nat.lt_of_lt_of_le (ha.lo hc g hg) he.1⟩
/-- What is below B is kept where nothing below B is turned. -/
theorem Arg.ext {h h₀ h' : Heap} {sz : Nat} {s : Sl} {cs : List Value} (ha : Arg h₀ sz s cs) (h1 : Ext h₀.size h₀ h) (h2 : Ext h₀.size h h') : Arg h' sz s cs := ha.keep (h1.trans h2) (Nat.le_refl _)

section
variable {H : Type} {enc : TypeId × Value → H} {P : Program} {w : World}
/-- What the cells of an element of this type are like. -/
def El (enc : TypeId × Value → H) (P : Program) (w : World) (e : TypeId) (Q : List Value → Prop) : Prop :=
  ∀ (n : Nat) (cs : List Value) (x : DataW H × List MemPlace), DataW.trod enc P w 0 (fun _ => true) true n e cs = some x → Q cs
theorem el_int {e : TypeId} {k : IntKind} (ht : P.underlying e = some (.int k)) : El enc P w e fun cs => ∃ n, cs = [.int k n] ∧ (Lit.int k n).wf = true := fun _ _ _ h => by
  obtain ⟨n, h1, _, h2⟩ := DataW.trod_int ht h
  exact ⟨n, h1, h2⟩
theorem el_bool {e : TypeId} (ht : P.underlying e = some .bool) : El enc P w e fun cs => ∃ b, cs = [.bool b] := fun _ _ _ h => by
  obtain ⟨b, h1, _⟩ := DataW.trod_bool ht h
  exact ⟨b, h1⟩
theorem el_str {e : TypeId} (ht : P.underlying e = some .string) : El enc P w e fun cs => ∃ s : ByteArray, cs = [.string s] ∧ s.size ≤ 9223372036854775807 := fun _ _ _ h => by
  obtain ⟨b, h1, _, h2⟩ := DataW.trod_string ht h
  exact ⟨b, h1, h2⟩
theorem el_sl {t e : TypeId} {sz : Nat} {Q : List Value → Prop} (ht : P.underlying t = some (.slice e)) (hc : P.cellsOf e = sz) (hp : 0 < sz) (he : El enc P w e Q) :
    El enc P w t fun cs => ∃ (s : Sl) (css : List (List Value)), cs = [s.v] ∧ css.length = s.n ∧ (∀ c ∈ css, c.length = sz ∧ Q c) ∧ Arg w.heap sz s css.flatten := by
  intro fuel cs x h
  have hlt := DataW.trod_lt _ _ _ _ h
  rcases DataW.trod_slice ht h with ⟨rfl, _⟩ | ⟨a, len, cap, elems, rest, n, _, rfl, rfl, _, hl, hm, hlen, hel, hsp, _⟩
  · exact ⟨⟨none, 0, 0⟩, [], rfl, rfl, (by simp), ⟨RdS.nil _ _ _ _, Nat.le_refl _, (by simp), fun h => by simp at h⟩⟩
  rw [hc] at hel hsp hlt
  obtain ⟨hrl, _⟩ := hsp rfl
  let f : Nat → List Value := fun i => (w.cells? 0 (a.add (i * sz)) sz).getD (List.replicate sz (.bool false))
  have hf : ∀ i, (f i).length = sz := fun i => by
    show ((w.cells? 0 (a.add (i * sz)) sz).getD _).length = sz
    cases hcs : w.cells? 0 (a.add (i * sz)) sz with
    | none => simp
    | some l => exact (World.cells?_some hcs).2.1
  have each : ∀ i, i < len → w.cells? 0 (a.add (i * sz)) sz = some (f i) ∧ Q (f i) := by
    intro i hi
    have h1 := hel i hi
    rw [List.getElem?_eq_getElem (by omega)] at h1
    cases hcs : w.cells? 0 (a.add (i * sz)) sz with
    | none => rw [hcs] at h1; cases h1
    | some l =>
      rw [hcs] at h1
      have e : f i = l := by show ((w.cells? 0 (a.add (i * sz)) sz).getD _) = l; rw [hcs]; rfl
      rw [e]
      exact ⟨rfl, he _ _ _ h1⟩
  have hfl : ((List.range len).map f).flatten = (List.range len).flatMap f := by rw [List.flatMap_def]
  refine ⟨⟨some a, len, cap⟩, (List.range len).map f, rfl, by simp, ?_, ⟨⟨?_, fun hpos => ?_⟩, hl, hm, fun hc0 g hg => ?_⟩⟩
  · intro c hcm
    obtain ⟨i, hi, rfl⟩ := List.mem_map.1 hcm
    exact ⟨hf i, (each i (List.mem_range.1 hi)).2⟩
  · rw [hfl, flat_len f sz hf, List.length_range]
  · rw [hfl, flat_len f sz hf, List.length_range] at hpos
    have hl0 : 0 < len := Nat.pos_of_ne_zero fun e => by rw [e] at hpos; simp at hpos
    have hspot : a.spot = none := by
      have := (World.cells?_some (each 0 hl0).1).2.2 0 hp
      rw [Nat.zero_mul, show (a.add 0).add 0 = a from rfl, List.getElem?_eq_getElem (by rw [hf]; exact hp)] at this
      unfold World.cell? at this
      split at this
      · cases hs : a.spot with
        | none => rfl
        | some _ => rw [hs] at this; simp at this
      · cases this
    obtain ⟨g, o, sp⟩ := a
    obtain rfl : sp = none := hspot
    refine ⟨g, o, rfl, fun j hj => ?_⟩
    rw [hfl, flat_len f sz hf, List.length_range] at hj
    have hi : j / sz < len := Nat.div_lt_of_lt_mul (by rw [Nat.mul_comm]; exact hj)
    have hr : j % sz < sz := Nat.mod_lt _ hp
    have hjj : j / sz * sz + j % sz = j := by rw [Nat.mul_comm]; exact Nat.div_add_mod j sz
    have h2 := (World.cells?_some (each (j / sz) hi).1).2.2 (j % sz) hr
    rw [add0, add0, Nat.add_assoc, hjj, cell_eq] at h2
    have h3 := flat_get f sz hf (List.range len) (j / sz) (j % sz) (by rw [List.length_range]; exact hi) hr
    rw [hjj, List.getElem_range] at h3
    rw [h2, hfl, h3]
  · have hg' : a.block = g := by simpa [Sl.blk] using hg
    rw [← hg']
    refine hlt (.cell a.block (a.off + 0)) ?_
    refine List.mem_append_left _ ?_
    have hc0' : 0 < cap := hc0
    unfold MemPlace.row
    exact List.mem_map.2 ⟨0, List.mem_range.2 (Nat.mul_pos (by omega) hp), rfl⟩

theorem el_map {e : TypeId} {Q Q' : List Value → Prop} (he : El enc P w e Q) (h : ∀ cs, Q cs → Q' cs) : El enc P w e Q' := fun n cs x hx => h cs (he n cs x hx)

/-! ## Bytes -/
theorem cells_bytes {css : List (List Value)} (h : ∀ c ∈ css, c.length = 1 ∧ ∃ n, c = [.int .u8 n] ∧ (Lit.int .u8 n).wf = true) : ∃ xs : List UInt8, css.flatten = cB xs ∧ xs.length = css.length := by
  induction css with
  | nil => exact ⟨[], rfl, rfl⟩
  | cons c css ih =>
    obtain ⟨xs, h1, h2⟩ := ih fun c' hc' => h c' (List.mem_cons_of_mem _ hc')
    obtain ⟨_, n, rfl, hn⟩ := h c (List.mem_cons_self ..)
    have hb : 0 ≤ n ∧ n ≤ 255 := by
      simp [Lit.wf, IntKind.min, IntKind.max, IntKind.bits, IntKind.signed] at hn; omega
    refine ⟨UInt8.ofNat n.toNat :: xs, ?_, by simp [h2]⟩
    simp only [List.flatten_cons, h1, cB, List.map_cons, List.cons_append, List.nil_append]
    congr 2
    have : (UInt8.ofNat n.toNat).toNat = n.toNat := by simp; omega
    rw [this]; omega
def ByQ (w : World) (cs : List Value) : Prop := ∃ (s : Sl) (xs : List UInt8), cs = [s.v] ∧ Arg w.heap 1 s (cB xs)
theorem el_bytes {t e : TypeId} (ht : P.underlying t = some (.slice e)) (he : P.underlying e = some (.int .u8)) (hc : P.cellsOf e = 1) : El enc P w t (ByQ w) :=
  el_map (el_sl ht hc (by decide) (el_int he)) fun cs ⟨s, css, h1, h2, h3, h4⟩ => by
    obtain ⟨xs, h5, _⟩ := cells_bytes h3
    exact ⟨s, xs, h1, h5 ▸ h4⟩

theorem cells_of {α : Type} (f : α → List Value) (ok : α → Prop) : ∀ {css : List (List Value)}, (∀ c ∈ css, ∃ a, c = f a ∧ ok a) → ∃ as : List α, css.flatten = as.flatMap f ∧ (∀ a ∈ as, ok a) ∧ as.length = css.length
  | [], _ => ⟨[], rfl, (by simp), rfl⟩
  | c :: css, h => by
    obtain ⟨as, h1, h2, h3⟩ := cells_of f ok (css := css) fun c' hc' => h c' (List.mem_cons_of_mem _ hc')
    obtain ⟨a, rfl, h4⟩ := h c (List.mem_cons_self ..)
    refine ⟨a :: as, by simp [h1], fun b hb => ?_, by simp [h3]⟩
    rcases List.mem_cons.1 hb with rfl | hb
    · exact h4
    · exact h2 b hb

/-! ## Structs of several cells -/
theorem el_st {t : TypeId} {fs : Array Field} {Q : List Value → Prop} (ht : P.underlying t = some (.struct fs))
    (hq : ∀ cs : List Value, cs.length = P.cellsOf t → (∀ (i : Nat) (f : Field), fs[i]? = some f → ∃ n x, DataW.trod enc P w 0 (fun _ => true) true n f.type ((cs.drop f.offset).take (P.cellsOf f.type)) = some x) → Q cs) :
    El enc P w t Q := fun _ cs _ h => by
  obtain ⟨xs, n, _, _, h1, h2, h3⟩ := DataW.trod_struct ht h
  refine hq cs h1 fun i f hf => ?_
  have h4 := h3 i f hf
  have hi : i < xs.length := by rw [h2]; exact (Array.getElem?_eq_some_iff.1 hf).1
  rw [List.getElem?_eq_getElem hi] at h4
  exact ⟨n, _, h4⟩

/-! ## At the row -/
theorem arg_sl {t e : TypeId} {sz : Nat} {Q : List Value → Prop} {b0 : Nat} {v : Value} {d : DataW H} {ps : List MemPlace} (ht : P.underlying t = some (.slice e)) (hc : P.cellsOf e = sz) (hp : 0 < sz) (he : El enc P w e Q)
    (hval : Value.okWide P w .any b0 t v) (hd : DataW.Trod enc P w 0 (fun _ => true) true t v d ps) :
    ∃ (s : Sl) (css : List (List Value)), v = s.v ∧ css.length = s.n ∧ (∀ c ∈ css, c.length = sz ∧ Q c) ∧ Arg w.heap sz s css.flatten ∧ s.below w.heap.size := by
  obtain ⟨fuel, hf⟩ := hd
  obtain ⟨a, len, cap, rfl⟩ := okWide_slice ht hval
  obtain ⟨s, css, h1, h2, h3, h4⟩ := el_sl ht hc hp he _ _ _ hf
  have h1' : [Value.slice a len cap] = [s.v] := h1
  obtain ⟨a', n', c'⟩ := s
  simp only [Sl.v, List.cons.injEq, Value.slice.injEq, and_true] at h1'
  obtain ⟨rfl, rfl, rfl⟩ := h1'
  refine ⟨⟨a, len, cap⟩, css, rfl, h2, h3, h4, fun g hg => ?_⟩
  cases a with
  | none => simp [Sl.blk] at hg
  | some a =>
    have hg' : a.block = g := by simpa [Sl.blk] using hg
    simp only [Value.okWide, ht, Cell.okWide, Cell.ok] at hval
    obtain ⟨_, _, _, _, row, cells, hs, _⟩ := hval
    rw [← hg']
    unfold World.shape? at hs
    split at hs
    · rename_i c el fz hb
      exact (Array.getElem?_eq_some_iff.1 hb).1
    · cases hs
theorem arg_bytes {t e : TypeId} {b0 : Nat} {v : Value} {d : DataW H} {ps : List MemPlace} (ht : P.underlying t = some (.slice e)) (he : P.underlying e = some (.int .u8)) (hc : P.cellsOf e = 1)
    (hval : Value.okWide P w .any b0 t v) (hd : DataW.Trod enc P w 0 (fun _ => true) true t v d ps) :
    ∃ (s : Sl) (xs : List UInt8), v = s.v ∧ Arg w.heap 1 s (cB xs) ∧ s.below w.heap.size := by
  obtain ⟨s, css, h1, h2, h3, h4, h5⟩ := arg_sl ht hc (by decide) (el_int he) hval hd
  obtain ⟨xs, h6, _⟩ := cells_bytes h3
  exact ⟨s, xs, h1, h6 ▸ h4, h5⟩
end
end Go.Proofs.YtniojdaddolnfaaGreat

/-
  Numbers: wraps, shifts, divisions, bits; bytes as a number, the highest first.
-/
namespace Go.Proofs.YtniojdaddolnfaaGreat
open Go

theorem wrU8 (n : Int) : IntKind.u8.wrap n = n % 256 := by simp [IntKind.wrap, IntKind.bits, IntKind.signed]
theorem wrU16 (n : Int) : IntKind.u16.wrap n = n % 65536 := by simp [IntKind.wrap, IntKind.bits, IntKind.signed]
theorem wrU32 (n : Int) : IntKind.u32.wrap n = n % 4294967296 := by simp [IntKind.wrap, IntKind.bits, IntKind.signed]
theorem wrU64 (n : Int) : IntKind.u64.wrap n = n % 18446744073709551616 := by simp [IntKind.wrap, IntKind.bits, IntKind.signed]
theorem wu8 {n : Int} (h0 : 0 ≤ n) (h1 : n < 256) : IntKind.u8.wrap n = n := by rw [wrU8]; omega
theorem wu32 {n : Int} (h0 : 0 ≤ n) (h1 : n < 4294967296) : IntKind.u32.wrap n = n := by rw [wrU32]; omega
theorem wu64 {n : Int} (h0 : 0 ≤ n) (h1 : n < 18446744073709551616) : IntKind.u64.wrap n = n := by rw [wrU64]; omega

theorem shl_eq (k : IntKind) (m : Int) (n : Nat) (hn : n ≤ k.bits) : shiftV .shl k m n = k.wrap (m * 2 ^ n) := by
  simp only [shiftV, Int.toNat_natCast, Nat.min_eq_left hn]
theorem shr_eq (k : IntKind) (m : Int) (n : Nat) (hn : n ≤ k.bits) : shiftV .shr k m n = m / 2 ^ n := by
  simp only [shiftV, Int.toNat_natCast, Nat.min_eq_left hn]
  rw [Int.fdiv_eq_ediv_of_nonneg _ (Int.le_of_lt (Int.pow_pos (by decide)))]
theorem shl8_u64 (m : Int) : shiftV .shl .u64 m 8 = (m * 256) % 18446744073709551616 := by
  have := shl_eq .u64 m 8 (by decide)
  rw [show ((8 : Nat) : Int) = 8 from rfl] at this
  rw [this, wrU64]; rfl
theorem shr8_i64 (m : Int) : shiftV .shr .i64 m 8 = m / 256 := by
  have := shr_eq .i64 m 8 (by decide)
  rw [show ((8 : Nat) : Int) = 8 from rfl] at this
  rw [this]; rfl
theorem shl8_i64 {m : Int} (h0 : 0 ≤ m) (h1 : m < 36028797018963968) : shiftV .shl .i64 m 8 = m * 256 := by
  have := shl_eq .i64 m 8 (by decide)
  rw [show ((8 : Nat) : Int) = 8 from rfl] at this
  rw [this, show (m * 2 ^ 8 : Int) = m * 256 from rfl, w64 (by omega) (by omega)]
theorem quo_u64 {m n : Int} (h0 : 0 ≤ m) (h1 : m < 18446744073709551616) (hn : 0 < n) : divV .quo .u64 m n = m / n := by
  have hle : m / n ≤ m := Int.ediv_le_self _ h0
  have h2 : 0 ≤ m / n := Int.ediv_nonneg h0 (by omega)
  simp only [divV]
  rw [Int.tdiv_eq_ediv_of_nonneg h0, wu64 h2 (by omega)]
theorem rem_nonneg {k : IntKind} {m n : Int} (h0 : 0 ≤ m) : divV .rem k m n = m % n := by
  simp only [divV]
  exact Int.tmod_eq_emod_of_nonneg h0
theorem quo_i64 {m n : Int} (h0 : 0 ≤ m) (h1 : m ≤ 9223372036854775807) (hn : 0 < n) : divV .quo .i64 m n = m / n := by
  have hle : m / n ≤ m := Int.ediv_le_self _ h0
  have h2 : 0 ≤ m / n := Int.ediv_nonneg h0 (by omega)
  simp only [divV]
  rw [Int.tdiv_eq_ediv_of_nonneg h0, w64 (by omega) (by omega)]

theorem ofInt_nat (w a : Nat) (ha : a < 2 ^ w) : (BitVec.ofInt w (a : Int)).toNat = a := by
  rw [BitVec.ofInt_natCast, BitVec.toNat_ofNat]; exact Nat.mod_eq_of_lt ha
theorem or_u64 {a b : Nat} (ha : a < 2 ^ 64) (hb : b < 2 ^ 64) : bitV .or .u64 a b = ((a ||| b : Nat) : Int) := by
  have hx : a ||| b < 2 ^ 64 := Nat.or_lt_two_pow ha hb
  simp only [bitV]
  rw [BitVec.toNat_or, ofInt_nat _ a (by simpa [IntKind.bits] using ha), ofInt_nat _ b (by simpa [IntKind.bits] using hb), wu64 (by omega) (by omega)]
theorem or_i64 {a b : Nat} (ha : a < 2 ^ 63) (hb : b < 2 ^ 63) : bitV .or .i64 a b = ((a ||| b : Nat) : Int) := by
  have hx : a ||| b < 2 ^ 63 := Nat.or_lt_two_pow ha hb
  simp only [bitV]
  rw [BitVec.toNat_or, ofInt_nat _ a (by simp [IntKind.bits]; omega), ofInt_nat _ b (by simp [IntKind.bits]; omega), w64 (by omega) (by omega)]
theorem xor_u8 {a b : Nat} (ha : a < 2 ^ 8) (hb : b < 2 ^ 8) : bitV .xor .u8 a b = ((a ^^^ b : Nat) : Int) := by
  have hx : a ^^^ b < 2 ^ 8 := Nat.xor_lt_two_pow ha hb
  simp only [bitV]
  rw [BitVec.toNat_xor, ofInt_nat _ a (by simpa [IntKind.bits] using ha), ofInt_nat _ b (by simpa [IntKind.bits] using hb), wu8 (by omega) (by omega)]
theorem xor_u32 {a b : Nat} (ha : a < 2 ^ 32) (hb : b < 2 ^ 32) : bitV .xor .u32 a b = ((a ^^^ b : Nat) : Int) := by
  have hx : a ^^^ b < 2 ^ 32 := Nat.xor_lt_two_pow ha hb
  simp only [bitV]
  rw [BitVec.toNat_xor, ofInt_nat _ a (by simpa [IntKind.bits] using ha), ofInt_nat _ b (by simpa [IntKind.bits] using hb), wu32 (by omega) (by omega)]
theorem and_u32 {a b : Nat} (ha : a < 2 ^ 32) (hb : b < 2 ^ 32) : bitV .and .u32 a b = ((a &&& b : Nat) : Int) := by
  have hx : a &&& b < 2 ^ 32 := Nat.and_lt_two_pow _ hb
  simp only [bitV]
  rw [BitVec.toNat_and, ofInt_nat _ a (by simpa [IntKind.bits] using ha), ofInt_nat _ b (by simpa [IntKind.bits] using hb), wu32 (by omega) (by omega)]
theorem or_low {a c : Nat} (hc : c < 256) : (a * 256) ||| c = a * 256 + c := by
  have := Nat.shiftLeft_add_eq_or_of_lt (a := a) (i := 8) (b := c) hc
  rw [Nat.shiftLeft_eq, show (2 : Nat) ^ 8 = 256 from rfl] at this
  omega

theorem lit64 : (18446744073709551616 : Nat) = 2 ^ 64 := by decide +kernel
theorem lit63 : (9223372036854775808 : Nat) = 2 ^ 63 := by decide +kernel
theorem or_u64' {a b : Nat} (ha : a < 18446744073709551616) (hb : b < 18446744073709551616) : bitV .or .u64 a b = ((a ||| b : Nat) : Int) := or_u64 (by rw [← lit64]; exact ha) (by rw [← lit64]; exact hb)
theorem or_i64' {a b : Nat} (ha : a < 9223372036854775808) (hb : b < 9223372036854775808) : bitV .or .i64 a b = ((a ||| b : Nat) : Int) := or_i64 (by rw [← lit63]; exact ha) (by rw [← lit63]; exact hb)
theorem emod64 {n : Int} (h0 : 0 ≤ n) (h1 : n < 18446744073709551616) : n % 18446744073709551616 = n := Int.emod_eq_of_lt h0 h1
set_option maxRecDepth 100000 in
theorem shl_or_u64 {u c : Nat} (hc : c < 256) (hu : u * 256 + c < 18446744073709551616) : bitV .or .u64 (shiftV .shl .u64 (u : Int) 8) (IntKind.u64.wrap (c : Int)) = ((u * 256 + c : Nat) : Int) := by
  have e3 : u * 256 < 18446744073709551616 := by omega
  have e4 : c < 18446744073709551616 := by omega
  have e5 : ((u * 256 : Nat) : Int) = (u : Int) * 256 := by omega
  have e6 : (0 : Int) ≤ (u : Int) * 256 := by omega
  have e7 : (u : Int) * 256 < 18446744073709551616 := by omega
  have e8 : (c : Int) < 18446744073709551616 := by omega
  rw [shl8_u64, wu64 (Int.natCast_nonneg c) e8, emod64 e6 e7, ← e5, or_u64' e3 e4, or_low hc]
theorem shl_or_i64 {u c : Nat} (hc : c < 256) (hu : u < 65536) : bitV .or .i64 (shiftV .shl .i64 (IntKind.i64.wrap (u : Int)) 8) (IntKind.i64.wrap (c : Int)) = ((u * 256 + c : Nat) : Int) := by
  have e : ((u : Int) * 256) = ((u * 256 : Nat) : Int) := by omega
  rw [w64 (by omega) (by omega), w64 (by omega) (by omega), shl8_i64 (by omega) (by omega), e, or_i64' (by omega) (by omega), or_low hc]
/-- Bytes as a number, the highest first. -/
def valBE (l : List UInt8) : Nat := l.foldl (fun u b => u * 256 + b.toNat) 0
theorem valBE_snoc (l : List UInt8) (b : UInt8) : valBE (l ++ [b]) = valBE l * 256 + b.toNat := by simp [valBE]
theorem valBE_lt (l : List UInt8) : valBE l < 256 ^ l.length := by
  have key : ∀ l : List UInt8, ∀ u n, u < 256 ^ n → l.foldl (fun u b => u * 256 + b.toNat) u < 256 ^ (n + l.length) := by
    intro l
    induction l with
    | nil => intro u n h; exact h
    | cons b l ih =>
      intro u n h
      have hb := b.toNat_lt
      have := ih (u * 256 + b.toNat) (n + 1) (by rw [Nat.pow_succ]; omega)
      simp only [List.foldl_cons, List.length_cons]
      rwa [show n + (l.length + 1) = n + 1 + l.length by omega]
  have := key l 0 0 (by simp)
  rwa [Nat.zero_add] at this
theorem take_snoc {α : Type} (l : List α) (k : Nat) (hk : k < l.length) : l.take (k + 1) = l.take k ++ [l[k]] := by
  rw [List.take_succ_eq_append_getElem hk]
end Go.Proofs.YtniojdaddolnfaaGreat

/-
  More rules: a literal of bytes turned into bytes, make, a store into an element of a slice that may be written.
-/
namespace Go.Proofs.YtniojdaddolnfaaGreat
open Go

theorem frz {t u e : TypeId} {P : Program} (hT : ByteT P t u e) {h : Heap} {b : Nat} {el : TypeId} {cs : List Value} {n c : Nat} {K : Sl → Heap → Prop} (hb : Blk h b el cs)
    (hk : ∀ h', Blk h' b el cs → Upd (· = b) h h' → h'.size = h.size → K ⟨some ⟨b, 0, none⟩, n, c⟩ h') : Frz P t t ⟨some ⟨b, 0, none⟩, n, c⟩ h K := by
  intro w hw
  obtain ⟨fz, hcell, hfz⟩ := hb
  have hbl : w.heap[b]? = some (.cells cs.toArray el fz) := by rw [hw]; exact hcell
  have hs : w.shape? b = some (el, cs.length) := by unfold World.shape?; rw [hbl]; rfl
  have hrun : (convert t t (.slice (some ⟨b, 0, none⟩) n c)).run P w = .ok (.slice (some ⟨b, 0, none⟩) n c) (w.freeze ⟨b, cs.length, none⟩ 1) := by
    simp [convert, run_underlying hT.slc, run_underlying hT.elm, markStringish, hs]
  refine ⟨_, _, hrun, ⟨rfl, rfl, rfl⟩, ((⟨some ⟨b, 0, none⟩, n, c⟩ : Sl), ()), rfl, ?_⟩
  refine hk _ ⟨(cs.length, cs.length + 1), ?_, .inr rfl⟩ ⟨?_, fun k hk hn => ?_⟩ ?_
  · show (w.heap.modify b _)[b]? = _
    rw [Array.getElem?_modify, if_pos rfl, hbl]
    rcases hfz with rfl | rfl
    · rfl
    · simp
  · show h.size ≤ (w.heap.modify b _).size
    rw [Array.size_modify, hw]; exact Nat.le_refl _
  · show (w.heap.modify b _)[k]? = h[k]?
    rw [Array.getElem?_modify, if_neg (fun e => hn e.symm), hw]
  · show (w.heap.modify b _).size = h.size
    rw [Array.size_modify, hw]

/-- The cells of a type's zero. -/
structure ZeroT (P : Program) (e : TypeId) (zs : List Value) : Prop where
  z : (P.info? e).bind (fun i => i.zero.map (·.cells)) = some zs.toArray
theorem made_eq (zs : List Value) (c : Nat) (hp : 0 < zs.length) : madeCells zs.toArray (c * zs.length) = ((List.replicate c zs).flatten).toArray := by
  have e : (List.replicate c zs).flatten = (List.range c).flatMap fun _ => zs := by
    rw [List.flatMap_def]
    congr 1
    apply List.ext_getElem (by simp)
    intro i h1 h2
    simp
  rw [e]
  apply Array.ext
  · rw [size_madeCells, List.size_toArray, flat_len (fun _ => zs) zs.length (fun _ => rfl), List.length_range]
  · intro i h1 h2
    rw [size_madeCells] at h1
    have hi : i / zs.length < c := Nat.div_lt_of_lt_mul (by rw [Nat.mul_comm]; exact h1)
    have hr : i % zs.length < zs.length := Nat.mod_lt _ hp
    have hii : i / zs.length * zs.length + i % zs.length = i := by rw [Nat.mul_comm]; exact Nat.div_add_mod i _
    have h3 := flat_get (fun _ : Nat => zs) zs.length (fun _ => rfl) (List.range c) (i / zs.length) (i % zs.length) (by simpa using hi) hr
    rw [hii] at h3
    have h4 : ((List.range c).flatMap fun _ => zs)[i]? = some zs[i % zs.length] := by rw [h3, List.getElem?_eq_getElem hr]
    have h2' : i < ((List.range c).flatMap fun _ => zs).length := by simpa using h2
    have h5 : ((List.range c).flatMap fun _ => zs).toArray[i] = zs[i % zs.length] := by
      rw [List.getElem?_eq_getElem h2'] at h4
      injection h4
    rw [h5]
    simp [madeCells, getElem!_pos, hr]
theorem mk {P : Program} {t e : TypeId} {sz by_ : Nat} {zs : List Value} (hT : ElemT P t e sz by_) (hz : ZeroT P e zs) {l c : Int} {h : Heap} {K : Sl → Heap → Prop} (l' c' : Nat) (hl : l = (l' : Int)) (hc : c = (c' : Int)) (hlc : l' ≤ c') (hby : by_ * c' ≤ 281474976710656)
    (h63 : c' ≤ 9223372036854775807) (hk : ∀ h', Blk h' h.size e (List.replicate c' zs).flatten → Ext h.size h h' → h'.size = h.size + 1 → K ⟨some ⟨h.size, 0, none⟩, l', c'⟩ h') : Mk P t l c h K := by
  subst hl hc
  obtain ⟨hu, ⟨i, z, hi, hzz, hsz, hbb, hzs⟩, hpos⟩ := hT
  have hz1 : z.cells = zs.toArray := by
    have := hz.z
    rw [hi] at this
    simp only [Option.bind_some, hzz, Option.map_some, Option.some.injEq] at this
    exact this
  have hlz : zs.length = sz := by rw [← hzs, hz1]; simp
  intro w hw
  have hr := run_make (P := P) w t e i z hu hi hzz .i64 .i64 (l' : Int) (c' : Int) (by omega) (by omega) (by rw [hbb]; have := Int.ofNat_le.2 hby; rw [Int.natCast_mul] at this; exact this) (by omega)
  rw [hz1, hsz, Int.toNat_natCast, Int.toNat_natCast, ← hlz, made_eq _ _ (by omega), hw] at hr
  refine ⟨_, _, hr, ⟨rfl, rfl, rfl⟩, ((⟨some ⟨h.size, 0, none⟩, l', c'⟩ : Sl), ()), rfl, ?_⟩
  show K _ (w.heap.push _)
  rw [hw]
  exact hk _ (Blk.new h e _) (ext_push h _ (Nat.le_refl _)) (by simp)

theorem setH_same {h : Heap} {a : Addr} {v x : Value} (hc : cellH h a = some x) : cellH (setH h a v) a = some v := World.cell?_setCell_same (mkW h) a v hc
theorem setH_other (h : Heap) {a b : Addr} (v : Value) (hn : a ≠ b) : cellH (setH h a v) b = cellH h b := World.cell?_setCell_other (mkW h) a b v hn
theorem setH_frozen (h : Heap) (a b : Addr) (v : Value) : frozenH (setH h a v) b = frozenH h b := World.frozen?_setCell (mkW h) a b v
/-- A store into a cell of a slice that may be written. -/
theorem setO {h : Heap} {sz : Nat} {s : Sl} {xs : List Value} {i : Int} {j : Nat} {v : Value} {K : Heap → Prop} (ho : Own h sz s xs) (k : Nat) (hi : i = (k : Int)) (hk : k < s.n) (hj : j < sz)
    (hK : ∀ h', Own h' sz s (xs.set (k * sz + j) v) → Upd (fun g => s.blk = some g) h h' → h'.size = h.size → K h') : Ix s i sz fun e => St h (e.add j) v K := by
  subst hi
  obtain ⟨h1, h2, h3, h4⟩ := ho
  have hks : k * sz + sz ≤ s.n * sz := by rw [← Nat.succ_mul]; exact Nat.mul_le_mul_right _ hk
  have hkj : k * sz + j < s.n * sz := by omega
  have hnc : s.n * sz ≤ s.c * sz := Nat.mul_le_mul_right _ h2
  rcases h4 with ⟨_, hc⟩ | ⟨g, o, ha, hg, hx, hw⟩
  · omega
  refine ⟨⟨g, o, none⟩, ha, by omega, by omega, ?_⟩
  obtain ⟨w1, w2⟩ := hw (k * sz + j) (by omega)
  have hadd : ((⟨g, o, none⟩ : Addr).add ((k : Int).toNat * sz)).add j = ⟨g, o + (k * sz + j), none⟩ := by rw [add0, add0, Int.toNat_natCast, Nat.add_assoc]
  show St h (((⟨g, o, none⟩ : Addr).add ((k : Int).toNat * sz)).add j) v K
  rw [hadd]
  obtain ⟨x, hx1⟩ := Option.isSome_iff_exists.1 w1
  refine ⟨w1, w2, hK _ ⟨by rw [List.length_set]; exact h1, h2, h3, .inr ⟨g, o, ha, by rw [setH_size]; exact hg, fun q hq => ?_, fun q hq => ?_⟩⟩ ⟨by rw [setH_size]; exact Nat.le_refl _, fun q hq hn => setH_get _ _ _ fun e => hn (by simp [Sl.blk, ha, e])⟩ (setH_size ..)⟩
  · rw [List.length_set] at hq
    rw [List.getElem?_set]
    by_cases hqk : k * sz + j = q
    · subst hqk
      rw [if_pos rfl, if_pos hq, setH_same hx1]
    · rw [if_neg hqk, setH_other _ _ (by intro e; injection e with _ e2 _; omega)]
      exact hx q hq
  · obtain ⟨y1, y2⟩ := hw q hq
    rw [setH_frozen]
    refine ⟨?_, y2⟩
    by_cases hqk : k * sz + j = q
    · subst hqk
      rw [setH_same hx1]; rfl
    · rw [setH_other _ _ (by intro e; injection e with _ e2 _; omega)]
      exact y1
theorem setO0 {h : Heap} {sz : Nat} {s : Sl} {xs : List Value} {i : Int} {v : Value} {K : Heap → Prop} (ho : Own h sz s xs) (k : Nat) (hi : i = (k : Int)) (hk : k < s.n) (hj : 0 < sz)
    (hK : ∀ h', Own h' sz s (xs.set (k * sz) v) → Upd (fun g => s.blk = some g) h h' → h'.size = h.size → K h') : Ix s i sz fun e => St h e v K :=
  setO (j := 0) ho k hi hk hj hK
theorem Own.below {h : Heap} {sz : Nat} {s : Sl} {xs : List Value} (ho : Own h sz s xs) : s.below h.size := fun g hg => by
  obtain ⟨_, _, _, hh⟩ := ho
  rcases hh with ⟨ha, _⟩ | ⟨g', o, ha, hlt, _⟩
  · rw [Sl.blk, ha] at hg; cases hg
  · rw [Sl.blk, ha] at hg; injection hg with hg; rw [← hg]; exact hlt
end Go.Proofs.YtniojdaddolnfaaGreat

/-
  More rules: clear.
-/
namespace Go.Proofs.YtniojdaddolnfaaGreat
open Go

theorem zc_eq (zs : List Value) (n : Nat) (hp : 0 < zs.length) : (Builtin.zeroCells zs.toArray n).toList = (List.replicate n zs).flatten := by
  have := made_eq zs n hp
  have e : Builtin.zeroCells zs.toArray n = madeCells zs.toArray (n * zs.length) := by simp [Builtin.zeroCells, madeCells]
  rw [e, this]
theorem clr_core {P : Program} {t e : TypeId} {sz by_ : Nat} {zs : List Value} (hT : ElemT P t e sz by_) (hz : ZeroT P e zs) (h1 : zs.all (·.oneCell') = true) {h : Heap} {g o n c : Nat} {K : Heap → Prop}
    (hc : ∀ j, j < n * sz → (cellH h ⟨g, o + j, none⟩).isSome = true ∧ frozenH h ⟨g, o + j, none⟩ = false)
    (hk : ∀ h', (∀ x : Addr, (x.block = g → x.spot = none → x.off < o ∨ o + n * sz ≤ x.off) → cellH h' x = cellH h x) → (∀ x, frozenH h' x = frozenH h x) → (∀ j, j < n * sz → (cellH h' ⟨g, o + j, none⟩).isSome = true) →
      Upd (· = g) h h' → h'.size = h.size → K h') : OpT P (Builtin.clear_ #[t] 0 #[.slice (some ⟨g, o, none⟩) n c]) h [] K := by
  obtain ⟨hu, ⟨i, z, hi, hzz, hsz, hbb, hzs⟩, hpos⟩ := hT
  have hz1 : z.cells = zs.toArray := by
    have := hz.z
    rw [hi] at this
    simp only [Option.bind_some, hzz, Option.map_some, Option.some.injEq] at this
    exact this
  have hlz : zs.length = sz := by rw [← hzs, hz1]; simp
  intro w hw
  by_cases hn : n = 0
  · subst hn
    refine ⟨.tuple #[], w, ?_, Env.refl w, (), rfl, ?_⟩
    · simp [Builtin.clear_, run_underlying hu]
    · rw [hw]
      exact hk h (fun _ _ => rfl) (fun _ => rfl) (fun j hj => by rw [Nat.zero_mul] at hj; omega) (Upd.refl _ _) rfl
  · obtain ⟨m, rfl⟩ : ∃ m, n = m + 1 := ⟨n - 1, by omega⟩
    have hv : ∀ w, (zeroValue e).run P w = .ok z w := fun w => by simp [zeroValue, typeInfo, hi, hzz]
    generalize hR : (List.replicate (m + 1) zs).flatten = vs
    have hzc : (Builtin.zeroCells z.cells (m + 1)).toList = vs := by rw [hz1, zc_eq _ _ (by omega), hR]
    have hvl : vs.length = (m + 1) * sz := by rw [← hR, List.length_flatten]; simp [hlz]
    have hst := run_storeCells_cells (P := P) g o vs 0 w (fun j hj => by rw [Nat.add_zero, cell_eq, hw]; exact (hc j (by omega)).1) (fun j hj => by rw [Nat.add_zero, frozen_eq, hw]; exact (hc j (by omega)).2)
      (fun v hv' => by
        rw [← hR] at hv'
        obtain ⟨l, hl, hvl⟩ := List.mem_flatten.1 hv'
        rw [List.eq_of_mem_replicate hl] at hvl
        exact List.all_eq_true.1 h1 v hvl)
    simp only [Nat.add_zero] at hst
    have hrun : (Builtin.clear_ #[t] 0 #[.slice (some ⟨g, o, none⟩) (m + 1) c]).run P w = .ok (.tuple #[]) (w.setCells g o vs) := by
      simp [Builtin.clear_, run_underlying hu, hv, hzc, hst]
    refine ⟨.tuple #[], _, hrun, env_setCells w g vs o, (), rfl, ?_⟩
    refine hk _ (fun x hx => ?_) (fun x => ?_) (fun j hj => ?_) ⟨by rw [size_setCells, hw]; exact Nat.le_refl _, fun k hk hn => by rw [get_setCells g vs o w hn, hw]⟩ (by rw [size_setCells, hw])
    · rw [← cell_eq, World.cell?_setCells_out g vs o w x (by rw [hvl]; exact hx), cell_eq, hw]
    · rw [← frozen_eq, World.frozen?_setCells, frozen_eq, hw]
    · rw [← cell_eq, World.cell?_setCells_in g vs o w (fun j hj => by rw [cell_eq, hw]; exact (hc j (by omega)).1) j (by omega)]
      rfl
/-- 'clear(s)' on a slice that may be written. -/
theorem clrO {P : Program} {t e : TypeId} {sz by_ : Nat} {zs : List Value} (hT : ElemT P t e sz by_) (hz : ZeroT P e zs) (h1 : zs.all (·.oneCell') = true) {h : Heap} {s : Sl} {xs : List Value} {K : Heap → Prop} (ho : Own h sz s xs)
    (hk : ∀ h', Upd (fun g => s.blk = some g) h h' → h'.size = h.size → K h') : OpT P (Builtin.clear_ #[t] 0 #[.slice s.a s.n s.c]) h [] K := by
  obtain ⟨hl, hnc, hc63, hh⟩ := ho
  have hsz : s.n * sz ≤ s.c * sz := Nat.mul_le_mul_right _ hnc
  rcases hh with ⟨ha, _⟩ | ⟨g, o, ha, hg, hx, hw⟩
  · rw [ha]
    intro w hw
    refine ⟨.tuple #[], w, ?_, Env.refl w, (), rfl, ?_⟩
    · simp [Builtin.clear_, run_underlying hT.und]
    · rw [hw]; exact hk h (Upd.refl _ _) rfl
  · rw [ha]
    exact clr_core hT hz h1 (fun j hj => hw j (by omega)) fun h' _ _ _ hu hz' => hk h' (hu.mono fun k _ hk => by rw [hk]; simp [Sl.blk, ha]) hz'
/-- 'clear(s[len(s):u])' on a slice that may be written: what it holds stays. -/
theorem cutClr {P : Program} {t e : TypeId} {sz by_ : Nat} {zs : List Value} (hT : ElemT P t e sz by_) (hz : ZeroT P e zs) (h1 : zs.all (·.oneCell') = true) {h : Heap} {s : Sl} {xs : List Value} {lo hi : Option Value} {K : Heap → Prop} (ho : Own h sz s xs)
    (u : Nat) (hlo : LoIs lo s.n) (hhi : HiIs hi s.n u) (hu : s.n ≤ u) (huc : u ≤ s.c)
    (hk : ∀ h', Own h' sz s xs → Upd (fun g => s.blk = some g) h h' → h'.size = h.size → K h') :
    Cut P t s lo hi none fun s5 => OpT P (Builtin.clear_ #[t] 0 #[.slice s5.a s5.n s5.c]) h [] K := by
  refine cut_raw hT s.n u s.c hlo hhi (.inl ⟨rfl, rfl⟩) hu huc (Nat.le_refl _) ?_
  by_cases hun : u = s.n
  · have e : (cutSl s sz s.n u s.c).n = 0 := by show u - s.n = 0; omega
    rw [e]
    intro w hw
    refine ⟨.tuple #[], w, ?_, Env.refl w, (), rfl, ?_⟩
    · cases (cutSl s sz s.n u s.c).a <;> simp [Builtin.clear_, run_underlying hT.und]
    · rw [hw]; exact hk h ho (Upd.refl _ _) rfl
  · obtain ⟨hl, hnc, hc63, hh⟩ := ho
    rcases hh with ⟨ha, hc0⟩ | ⟨g, o, ha, hg, hx, hw⟩
    · omega
    have hcs : (cutSl s sz s.n u s.c).a = some ⟨g, o + s.n * sz, none⟩ := by
      show (if s.c = s.n then s.a else s.a.map (·.add (s.n * sz))) = _
      rw [if_neg (by omega), ha]
      simp only [Option.map_some]
      rw [add0]
    rw [hcs]
    have husz : s.n * sz + (u - s.n) * sz ≤ s.c * sz := by rw [← Nat.add_mul]; exact Nat.mul_le_mul_right _ (by omega)
    show OpT P (Builtin.clear_ #[t] 0 #[.slice (some ⟨g, o + s.n * sz, none⟩) (u - s.n) (s.c - s.n)]) h [] K
    refine clr_core hT hz h1 (fun j hj => by rw [Nat.add_assoc]; exact hw _ (by omega)) fun h' hc' hf' hs' hu' hz' => ?_
    refine hk h' ⟨hl, hnc, hc63, .inr ⟨g, o, ha, by omega, fun j hj => ?_, fun j hj => ⟨?_, by rw [hf']; exact (hw j hj).2⟩⟩⟩ (hu'.mono fun k _ hk => by rw [hk]; simp [Sl.blk, ha]) hz'
    · rw [hc' _ fun _ _ => .inl (by show o + j < o + s.n * sz; omega)]
      exact hx j hj
    · by_cases hin : s.n * sz ≤ j ∧ j < s.n * sz + (u - s.n) * sz
      · have := hs' (j - s.n * sz) (by omega)
        rwa [show o + s.n * sz + (j - s.n * sz) = o + j by omega] at this
      · rw [hc' _ fun _ _ => by show o + j < o + s.n * sz ∨ o + s.n * sz + (u - s.n) * sz ≤ o + j; omega]
        exact (hw j hj).1
end Go.Proofs.YtniojdaddolnfaaGreat

/-
  Rules for slices of elements of fixed width: read, written, appended to, cut; footprints: what a step turns, and what keeps apart.
-/
namespace Go.Proofs.YtniojdaddolnfaaGreat
open Go

/-! ## Elements -/
structure Enc (α : Type) (sz : Nat) where
  cells : α → List Value
  len : ∀ x, (cells x).length = sz
  pos : 0 < sz
  one : ∀ x, ∀ u ∈ cells x, u.oneCell' = true
def Enc.fl {α : Type} {sz : Nat} (E : Enc α sz) (l : List α) : List Value := l.flatMap E.cells
section
variable {α : Type} {sz : Nat} {E : Enc α sz}
theorem Enc.fl_nil (E : Enc α sz) : E.fl [] = [] := rfl
theorem Enc.fl_one (E : Enc α sz) (x : α) : E.fl [x] = E.cells x := by simp [Enc.fl]
theorem Enc.fl_len (E : Enc α sz) (l : List α) : (E.fl l).length = l.length * sz := flat_len E.cells sz E.len l
theorem Enc.fl_app (E : Enc α sz) (a b : List α) : E.fl (a ++ b) = E.fl a ++ E.fl b := List.flatMap_append ..
theorem Enc.fl_cons (E : Enc α sz) (a : α) (b : List α) : E.fl (a :: b) = E.cells a ++ E.fl b := List.flatMap_cons ..
theorem Enc.fl_get (E : Enc α sz) (l : List α) (k j : Nat) (hk : k < l.length) (hj : j < sz) : (E.fl l)[k * sz + j]? = (E.cells l[k])[j]? := flat_get E.cells sz E.len l k j hk hj
theorem Enc.fl_take (E : Enc α sz) : ∀ (l : List α) (n : Nat), (E.fl l).take (n * sz) = E.fl (l.take n)
  | [], n => by simp [Enc.fl]
  | x :: xs, 0 => by simp [Enc.fl]
  | x :: xs, n + 1 => by
    rw [Enc.fl_cons, List.take_succ_cons, Enc.fl_cons, show (n + 1) * sz = (E.cells x).length + n * sz by rw [E.len, Nat.succ_mul]; omega, List.take_length_add_append, E.fl_take xs n]
theorem Enc.fl_drop (E : Enc α sz) : ∀ (l : List α) (n : Nat), (E.fl l).drop (n * sz) = E.fl (l.drop n)
  | [], n => by simp [Enc.fl]
  | x :: xs, 0 => by simp [Enc.fl]
  | x :: xs, n + 1 => by
    rw [Enc.fl_cons, List.drop_succ_cons, show (n + 1) * sz = (E.cells x).length + n * sz by rw [E.len, Nat.succ_mul]; omega, List.drop_length_add_append, E.fl_drop xs n]
theorem Enc.fl_ones (E : Enc α sz) (l : List α) : ∀ u ∈ E.fl l, u.oneCell' = true := by
  intro u hu
  obtain ⟨e, _, he⟩ := List.mem_flatMap.1 hu
  exact E.one e u he
theorem Enc.fl_set (E : Enc α sz) : ∀ (l : List α) (k j : Nat) (v : Value) (y : α) (hk : k < l.length), j < sz → E.cells y = (E.cells l[k]).set j v → (E.fl l).set (k * sz + j) v = E.fl (l.set k y)
  | x :: xs, 0, j, v, y, _, hj, hy => by
    rw [Enc.fl_cons, List.set_cons_zero, Enc.fl_cons, Nat.zero_mul, Nat.zero_add, List.set_append_left _ _ (by rw [E.len]; exact hj), hy]; rfl
  | x :: xs, k + 1, j, v, y, hk, hj, hy => by
    rw [Enc.fl_cons, List.set_cons_succ, Enc.fl_cons, List.set_append_right _ _ (by rw [E.len, Nat.succ_mul]; omega), E.len, show (k + 1) * sz + j - sz = k * sz + j by rw [Nat.succ_mul]; omega,
      E.fl_set xs k j v y (by simpa using hk) hj hy]
theorem rdn {h : Heap} {s : Sl} {l : List α} (hr : RdS h sz s (E.fl l)) : s.n = l.length := by
  have := hr.1
  rw [E.fl_len] at this
  exact (Nat.eq_of_mul_eq_mul_right E.pos this).symm
theorem ownn {h : Heap} {s : Sl} {l : List α} (hr : Own h sz s (E.fl l)) : s.n = l.length := rdn hr.rd

/-- The address of a slice's element. -/
def ElAt (s : Sl) (sz k : Nat) (e : Addr) : Prop := ∃ g o, s.a = some ⟨g, o, none⟩ ∧ e = ⟨g, o + k * sz, none⟩
theorem ixR {h : Heap} {s : Sl} {l : List α} {i : Int} {K : Addr → Prop} (hr : RdS h sz s (E.fl l)) (k : Nat) (hi : i = (k : Int)) (hk : k < l.length) (hK : ∀ e, ElAt s sz k e → K e) : Ix s i sz K := by
  subst hi
  have hn := rdn hr
  have hp := E.pos
  obtain ⟨g, o, ha, _⟩ := hr.2 (by rw [E.fl_len]; exact Nat.mul_pos (by omega) hp)
  refine ⟨_, ha, by omega, by omega, ?_⟩
  rw [add0, Int.toNat_natCast]
  exact hK _ ⟨g, o, ha, rfl⟩
theorem ldR {kd : Kd} {h : Heap} {s : Sl} {l : List α} {k : Nat} {e : Addr} {K : kd.T → Prop} {j : Nat} (hr : RdS h sz s (E.fl l)) (he : ElAt s sz k e) (hk : k < l.length) (x : kd.T) (hx : (E.cells l[k])[j]? = some (kd.mk x)) (hK : K x) : Ld kd h (e.add j) K := by
  have hp := E.pos
  have hj : j < sz := by
    have := (List.getElem?_eq_some_iff.1 hx).1
    rwa [E.len] at this
  obtain ⟨g, o, ha, rfl⟩ := he
  obtain ⟨g', o', ha', hc⟩ := hr.2 (by rw [E.fl_len]; exact Nat.mul_pos (by omega) hp)
  rw [ha] at ha'
  simp only [Option.some.injEq, Addr.mk.injEq, and_true] at ha'
  obtain ⟨rfl, rfl⟩ := ha'
  rw [add0, Nat.add_assoc]
  have hkl : k * sz + j < (E.fl l).length := by
    rw [E.fl_len]
    have : (k + 1) * sz ≤ l.length * sz := Nat.mul_le_mul_right _ hk
    rw [Nat.succ_mul] at this
    omega
  exact ld x ((hc _ hkl).trans ((E.fl_get l k j hk hj).trans hx)) hK
theorem ldR0 {kd : Kd} {h : Heap} {s : Sl} {l : List α} {k : Nat} {e : Addr} {K : kd.T → Prop} (hr : RdS h sz s (E.fl l)) (he : ElAt s sz k e) (hk : k < l.length) (x : kd.T) (hx : (E.cells l[k])[0]? = some (kd.mk x)) (hK : K x) : Ld kd h e K :=
  ldR (j := 0) hr he hk x hx hK
theorem stR {h : Heap} {s : Sl} {l : List α} {k : Nat} {e : Addr} {K : Heap → Prop} {j : Nat} {v : Value} (ho : Own h sz s (E.fl l)) (he : ElAt s sz k e) (hk : k < l.length) (hj : j < sz) (y : α) (hy : E.cells y = (E.cells l[k]).set j v)
    (hK : ∀ h', Own h' sz s (E.fl (l.set k y)) → Upd (fun g => s.blk = some g) h h' → h'.size = h.size → K h') : St h (e.add j) v K := by
  have hn := ownn ho
  obtain ⟨g, o, ha, rfl⟩ := he
  have := setO (K := K) (i := (k : Int)) (j := j) (v := v) ho k rfl (by omega) hj fun h' o' u' z' => by
    rw [E.fl_set l k j v y hk hj hy] at o'
    exact hK h' o' u' z'
  obtain ⟨a, ha', _, _, hst⟩ := this
  rw [ha] at ha'
  injection ha' with ha'
  subst ha'
  rw [add0, Int.toNat_natCast] at hst
  exact hst
theorem stR0 {h : Heap} {s : Sl} {l : List α} {k : Nat} {e : Addr} {K : Heap → Prop} {v : Value} (ho : Own h sz s (E.fl l)) (he : ElAt s sz k e) (hk : k < l.length) (y : α) (hy : E.cells y = (E.cells l[k]).set 0 v)
    (hK : ∀ h', Own h' sz s (E.fl (l.set k y)) → Upd (fun g => s.blk = some g) h h' → h'.size = h.size → K h') : St h e v K :=
  stR (j := 0) ho he hk E.pos y hy hK
/-! ## Cut, append -/
variable {P : Program} {t ty e : TypeId} {by_ : Nat}
theorem cutR {s : Sl} {h : Heap} {l : List α} {lo hi mx : Option Value} {K : Sl → Prop} (hT : ElemT P t e sz by_) (hr : RdS h sz s (E.fl l)) (a b m : Nat) (hlo : LoIs lo a) (hhi : HiIs hi s.n b)
    (hmx : (mx = none ∧ m = s.c) ∨ (HiIs mx s.c m ∧ hi ≠ none)) (h1 : a ≤ b) (hu : b ≤ l.length) (h2 : b ≤ m) (h3 : m ≤ s.c)
    (hk : ∀ s', RdS h sz s' (E.fl ((l.drop a).take (b - a))) → s'.n = b - a → s'.c = m - a → s'.blk = s.blk → K s') : Cut P t s lo hi mx K := by
  refine cut_rd hT hr a b m hlo hhi hmx h1 (by rw [rdn hr]; exact hu) h2 h3 fun s' r n c bl => hk s' ?_ n c bl
  rwa [E.fl_drop, E.fl_take] at r
theorem cutRO {s : Sl} {h : Heap} {l : List α} {lo hi mx : Option Value} {K : Sl → Prop} (hT : ElemT P t e sz by_) (hr : Own h sz s (E.fl l)) (a b m : Nat) (hlo : LoIs lo a) (hhi : HiIs hi s.n b)
    (hmx : (mx = none ∧ m = s.c) ∨ (HiIs mx s.c m ∧ hi ≠ none)) (h1 : a ≤ b) (hu : b ≤ l.length) (h2 : b ≤ m) (h3 : m ≤ s.c)
    (hk : ∀ s', Own h sz s' (E.fl ((l.drop a).take (b - a))) → s'.n = b - a → s'.c = m - a → s'.blk = s.blk → K s') : Cut P t s lo hi mx K := by
  refine cut_own hT hr a b m hlo hhi hmx h1 (by rw [ownn hr]; exact hu) h2 h3 fun s' r n c bl => hk s' ?_ n c bl
  rwa [E.fl_drop, E.fl_take] at r
theorem appR {s x : Sl} {h : Heap} {xs ys : List α} {K : Sl → Heap → Prop} (hT : ElemT P t e sz by_) (ho : Own h sz s (E.fl xs)) (hx : RdS h sz x (E.fl ys)) (hlen : (xs.length + ys.length) * by_ ≤ 140737488355328) (h63 : xs.length + ys.length ≤ 4611686018427387903)
    (hk : ∀ s' h', Own h' sz s' (E.fl (xs ++ ys)) → Grw h s h' s' → K s' h') : App P t ty s x h K := by
  have e1 := ownn ho
  have e2 := rdn hx
  refine app hT ho hx (E.fl_ones ys) (by rw [e1, e2]; exact hlen) (by rw [e1, e2]; exact h63) fun s' h' o n u b => hk s' h' ?_ ⟨u, b⟩
  rwa [E.fl_app]
/-- One element more. -/
theorem app1 {s : Sl} {h : Heap} {l : List α} {K : Sl → Heap → Prop} (hT : ElemT P t e sz by_) (x : α) (ho : Own h sz s (E.fl l)) (hlen : (l.length + 1) * by_ ≤ 140737488355328) (h63 : l.length + 1 ≤ 4611686018427387903)
    (hk : ∀ s' h', Own h' sz s' (E.fl (l ++ [x])) → Grw h s h' s' → K s' h') : Alloc h (.cells (E.cells x).toArray e) fun b h1 => App P t ty s ⟨some b, 1, 1⟩ h1 K := by
  refine alloc fun h1 b1 e1 z1 => ?_
  have r1 : RdS h1 sz ⟨some ⟨h.size, 0, none⟩, 1, 1⟩ (E.fl [x]) := by
    rw [E.fl_one]
    exact (Own.full b1 (sz := sz) (n := 1) (by rw [E.len, Nat.one_mul]) (by decide)).rd
  refine appR hT (ho.ext' e1) r1 hlen h63 fun s' h' o' g' => hk s' h' o' ?_
  exact (Grw.of_ext s e1).trans g'
end

/-! ## Footprints -/
/-- A step: only blocks of F are turned; what it holds behind it lay in F, or is new. -/
structure Stp (h : Heap) (F : Nat → Prop) (h' : Heap) (F' : Nat → Prop) : Prop where
  upd : Upd F h h'
  grow : ∀ g, F' g → F g ∨ h.size ≤ g
theorem Stp.refl (h : Heap) (F : Nat → Prop) : Stp h F h F := ⟨Upd.refl _ _, fun _ x => .inl x⟩
theorem Stp.trans {a b c : Heap} {F G H : Nat → Prop} (h1 : Stp a F b G) (h2 : Stp b G c H) : Stp a F c H := by
  refine ⟨h1.upd.trans h2.upd (fun _ _ x => x) fun k hk x => ?_, fun g hg => ?_⟩
  · rcases h1.grow k x with y | y
    · exact y
    · omega
  · rcases h2.grow g hg with y | y
    · exact h1.grow g y
    · exact .inr (Nat.le_trans h1.upd.size y)
/-- What lies apart from a step's blocks stays apart. -/
theorem Stp.apart {h h' : Heap} {F F' G : Nat → Prop} (hs : Stp h F h' F') (ha : ∀ g, F g → ¬ G g) (hG : ∀ g, G g → g < h.size) : ∀ g, F' g → ¬ G g := fun g hg x => by
  rcases hs.grow g hg with y | y
  · exact ha g y x
  · have := hG g x; omega
theorem Stp.from_ {h h' : Heap} {F F' : Nat → Prop} {B : Nat} (hs : Stp h F h' F') (hF : ∀ g, F g → B ≤ g) (hB : B ≤ h.size) : ∀ g, F' g → B ≤ g := fun g hg => by
  rcases hs.grow g hg with y | y
  · exact hF g y
  · exact Nat.le_trans hB y
theorem Stp.ext {h h' : Heap} {F F' : Nat → Prop} {B : Nat} (hs : Stp h F h' F') (hF : ∀ g, F g → B ≤ g) (hB : B ≤ h.size) : Ext B h h' := hs.upd.ext hB fun k hk x => by have := hF k x; omega
theorem Stp.of_ext {h h' : Heap} (F : Nat → Prop) (he : Ext h.size h h') : Stp h F h' F := ⟨he.upd _, fun _ x => .inl x⟩
def Sl.fp (s : Sl) : Nat → Prop := fun g => s.blk = some g
theorem Grw.stp {a b : Heap} {s t : Sl} (h : Grw a s b t) : Stp a s.fp b t.fp := ⟨h.upd, fun g hg => by
  rcases h.blk with e | e
  · exact .inl (by rw [Sl.fp, ← e]; exact hg)
  · exact .inr (e g hg)⟩
end Go.Proofs.YtniojdaddolnfaaGreat

/-
  A heap as a row of things that are known of it, each with blocks of its own: what one step turns leaves the others as they were.
-/
namespace Go.Proofs.YtniojdaddolnfaaGreat
open Go

inductive Res where
  | blk (b : Nat) (t : TypeId) (cs : List Value)
  | own (s : Sl) (sz : Nat) (xs : List Value)
  | rd (s : Sl) (sz : Nat) (xs : List Value)
  | any (fp : Nat → Prop) (P : Heap → Prop) (st : ∀ h h' : Heap, h.size ≤ h'.size → (∀ g, fp g → g < h.size → h'[g]? = h[g]?) → P h → P h') (bd : ∀ h, P h → ∀ g, fp g → g < h.size)
def Res.fp : Res → Nat → Prop
  | .blk b _ _ => fun g => g = b
  | .own s _ _ => fun g => s.blk = some g
  | .rd s _ xs => fun g => 0 < xs.length ∧ s.blk = some g
  | .any fp _ _ _ => fp
def Res.ok : Res → Heap → Prop
  | .blk b t cs => fun h => Blk h b t cs
  | .own s sz xs => fun h => Own h sz s xs
  | .rd s sz xs => fun h => RdS h sz s xs
  | .any _ P _ _ => P
theorem Res.keep {h h' : Heap} : ∀ (r : Res), h.size ≤ h'.size → (∀ g, r.fp g → g < h.size → h'[g]? = h[g]?) → r.ok h → r.ok h'
  | .blk b t cs, _, hk, ho => Blk.eq ho (hk b rfl (Blk.lt ho))
  | .own s sz xs, hs, hk, ho => Own.keep ho hs fun g hg hl => hk g hg hl
  | .rd s sz xs, _, hk, ho => by
    by_cases hp : 0 < xs.length
    · exact RdS.keep ho fun g hg hl => hk g ⟨hp, hg⟩ hl
    · exact ⟨ho.1, fun h0 => absurd h0 hp⟩
  | .any fp P st bd, hs, hk, ho => st h h' hs hk ho
theorem Res.lt {h : Heap} : ∀ (r : Res), r.ok h → ∀ g, r.fp g → g < h.size
  | .blk b t cs, ho, g, hg => by rw [hg]; exact Blk.lt ho
  | .own s sz xs, ho, g, hg => Own.below ho g hg
  | .rd s sz xs, ho, g, hg => by
    have hb : RdS h sz s xs := ho
    obtain ⟨g', o, ha, hx⟩ := hb.2 hg.1
    have h2 := hg.2
    rw [Sl.blk, ha] at h2
    injection h2 with h2
    rw [← h2]
    exact lt_of_cell (a := ⟨g', o + 0, none⟩) ((hx 0 hg.1).trans (List.getElem?_eq_getElem hg.1))
  | .any fp P st bd, ho, g, hg => bd h ho g hg
def Apart (a b : Res) : Prop := ∀ g, a.fp g → ¬ b.fp g
theorem Apart.symm {a b : Res} (h : Apart a b) : Apart b a := fun g hb ha => h g ha hb
/-- What is known, from a first heap on: nothing of that one was turned; each thing has its own new blocks. -/
structure At (h0 h : Heap) (L : List Res) : Prop where
  ext : Ext h0.size h0 h
  ok : ∀ r ∈ L, r.ok h
  lo : ∀ r ∈ L, ∀ g, r.fp g → h0.size ≤ g
  sep : L.Pairwise Apart
section
variable {h0 h h' : Heap} {L : List Res}
theorem At.start (h : Heap) : At h h [] := ⟨Ext.refl _ _, (fun _ h => by cases h), (fun _ h => by cases h), List.Pairwise.nil⟩
theorem At.le (H : At h0 h L) : h0.size ≤ h.size := H.ext.1
theorem At.perm {L' : List Res} (H : At h0 h L) (p : L.Perm L') : At h0 h L' :=
  ⟨H.ext, fun r hr => H.ok r (p.symm.subset hr), fun r hr => H.lo r (p.symm.subset hr), (p.pairwise_iff fun h => Apart.symm h).1 H.sep⟩
theorem At.tail {r : Res} (H : At h0 h (r :: L)) : At h0 h L := ⟨H.ext, fun a ha => H.ok a (List.mem_cons_of_mem _ ha), fun a ha => H.lo a (List.mem_cons_of_mem _ ha), (List.pairwise_cons.1 H.sep).2⟩
theorem At.drop (n : Nat) (H : At h0 h L) : At h0 h (L.drop n) :=
  ⟨H.ext, fun a ha => H.ok a (List.mem_of_mem_drop ha), fun a ha => H.lo a (List.mem_of_mem_drop ha), H.sep.sublist (List.drop_sublist ..)⟩
/-- n things from the i-th on come to the front. -/
theorem At.mv (i n : Nat) (H : At h0 h L) : At h0 h ((L.drop i).take n ++ (L.take i ++ (L.drop i).drop n)) := by
  refine H.perm ?_
  have e : L = L.take i ++ ((L.drop i).take n ++ (L.drop i).drop n) := by rw [List.take_append_drop, List.take_append_drop]
  conv => lhs; rw [e]
  refine (List.perm_append_comm).trans ?_
  rw [List.append_assoc]
  exact List.Perm.append_left _ List.perm_append_comm
/-- The i-th thing is put away. -/
theorem At.del (i : Nat) (H : At h0 h L) : At h0 h (L.eraseIdx i) :=
  ⟨H.ext, fun a ha => H.ok a (List.mem_of_mem_eraseIdx ha), fun a ha => H.lo a (List.mem_of_mem_eraseIdx ha), H.sep.sublist (List.eraseIdx_sublist ..)⟩
theorem At.get {r : Res} (H : At h0 h L) (i : Nat) (hi : L[i]? = some r) : r.ok h := H.ok r (List.mem_of_getElem? hi)
theorem At.from_ {r : Res} (H : At h0 h L) (i : Nat) (hi : L[i]? = some r) : ∀ g, r.fp g → h0.size ≤ g := H.lo r (List.mem_of_getElem? hi)
theorem At.ext' (H : At h0 h L) (he : Ext h.size h h') : At h0 h' L :=
  ⟨H.ext.trans (he.mono H.ext.1), fun r hr => Res.keep r he.1 (fun g _ hl => he.2 g hl) (H.ok r hr), H.lo, H.sep⟩
theorem At.new {r : Res} (H : At h0 h L) (he : Ext h.size h h') (hr : r.ok h') (hf : ∀ g, r.fp g → h.size ≤ g) : At h0 h' (r :: L) := by
  have H' := H.ext' he
  refine ⟨H'.ext, fun a ha => ?_, fun a ha g hg => ?_, List.pairwise_cons.2 ⟨fun a ha g hg x => ?_, H'.sep⟩⟩
  · rcases List.mem_cons.1 ha with rfl | ha
    · exact hr
    · exact H'.ok a ha
  · rcases List.mem_cons.1 ha with rfl | ha
    · exact Nat.le_trans H.le (hf g hg)
    · exact H'.lo a ha g hg
  · have h1 := Res.lt a (H.ok a ha) g x
    have h2 := hf g hg
    omega
/-- The first thing is turned. -/
theorem At.turn0 {r r' : Res} (H : At h0 h (r :: L)) (hu : Upd r.fp h h') (hr : r'.ok h') (hf : ∀ g, r'.fp g → r.fp g ∨ h.size ≤ g) : At h0 h' (r' :: L) := by
  obtain ⟨s1, s2⟩ := List.pairwise_cons.1 H.sep
  refine ⟨H.ext.trans (hu.ext H.le fun k hk x => ?_), fun a ha => ?_, fun a ha g hg => ?_, List.pairwise_cons.2 ⟨fun a ha g hg x => ?_, s2⟩⟩
  · have := H.lo r (List.mem_cons_self ..) k x
    omega
  · rcases List.mem_cons.1 ha with rfl | ha
    · exact hr
    · exact Res.keep a hu.size (fun g hg hl => hu.keep g hl fun x => s1 a ha g x hg) (H.ok a (List.mem_cons_of_mem _ ha))
  · rcases List.mem_cons.1 ha with rfl | ha
    · rcases hf g hg with y | y
      · exact H.lo r (List.mem_cons_self ..) g y
      · exact Nat.le_trans H.le y
    · exact H.lo a (List.mem_cons_of_mem _ ha) g hg
  · rcases hf g hg with y | y
    · exact s1 a ha g y x
    · have h1 := Res.lt a (H.ok a (List.mem_cons_of_mem _ ha)) g x
      omega
theorem set_perm {r r' : Res} : ∀ (L : List Res) (i : Nat), L[i]? = some r → (L.set i r').Perm (r' :: L.eraseIdx i) ∧ L.Perm (r :: L.eraseIdx i)
  | [], _, h => by simp at h
  | a :: L, 0, h => by
    simp only [List.getElem?_cons_zero, Option.some.injEq] at h
    subst h
    exact ⟨List.Perm.refl _, List.Perm.refl _⟩
  | a :: L, i + 1, h => by
    obtain ⟨h1, h2⟩ := set_perm (r := r) (r' := r') L i (by simpa using h)
    exact ⟨(List.Perm.cons a h1).trans (List.Perm.swap ..), (List.Perm.cons a h2).trans (List.Perm.swap ..)⟩
/-- The i-th thing is turned. -/
theorem At.turn {r : Res} (H : At h0 h L) (i : Nat) (hi : L[i]? = some r) {r' : Res} (hu : Upd r.fp h h') (hr : r'.ok h') (hf : ∀ g, r'.fp g → r.fp g ∨ h.size ≤ g) : At h0 h' (L.set i r') := by
  obtain ⟨p1, p2⟩ := set_perm (r' := r') L i hi
  exact ((H.perm p2).turn0 hu hr hf).perm p1.symm
/-- The same heap, another reading of the i-th thing. -/
theorem At.as_ {r : Res} (H : At h0 h L) (i : Nat) (hi : L[i]? = some r) (r' : Res) (hr : r'.ok h) (hf : ∀ g, r'.fp g → r.fp g) : At h0 h (L.set i r') := H.turn i hi (Upd.refl _ _) hr fun g hg => .inl (hf g hg)
theorem At.nil (H : At h0 h L) (sz : Nat) : At h0 h (.own ⟨none, 0, 0⟩ sz [] :: L) := H.new (Ext.refl _ _) (Own.nil _ _) fun g hg => by simp [Res.fp, Sl.blk] at hg

/-! ## Rules -/
theorem brSome {a : Addr} {A B : Prop} (hB : B) : cond (some a).isNone A B := hB
theorem ldAt {kd : Kd} {b j : Nat} {t : TypeId} {cs : List Value} {K : kd.T → Prop} (H : At h0 h L) (i : Nat) (hi : L[i]? = some (.blk b t cs)) (x : kd.T) (hx : cs[j]? = some (kd.mk x)) (hK : K x) : Ld kd h ((⟨b, 0, none⟩ : Addr).add j) K :=
  ldF (H.get i hi) x hx hK
theorem ldAt0 {kd : Kd} {b : Nat} {t : TypeId} {cs : List Value} {K : kd.T → Prop} (H : At h0 h L) (i : Nat) (hi : L[i]? = some (.blk b t cs)) (x : kd.T) (hx : cs[0]? = some (kd.mk x)) (hK : K x) : Ld kd h ⟨b, 0, none⟩ K :=
  ldB (H.get i hi) x hx hK
theorem stAt {b j : Nat} {t : TypeId} {cs : List Value} {v : Value} {K : Heap → Prop} (H : At h0 h L) (i : Nat) (hi : L[i]? = some (.blk b t cs)) (hj : Nat.ble (j + 1) cs.length = true) (hK : ∀ h', At h0 h' (L.set i (.blk b t (cs.set j v))) → K h') : St h ((⟨b, 0, none⟩ : Addr).add j) v K :=
  stF (H.get i hi) (Nat.le_of_ble_eq_true hj) fun h' b' u' _ => hK h' (H.turn i hi (r' := .blk b t (cs.set j v)) u' b' fun _ hg => .inl hg)
theorem stAt0 {b : Nat} {t : TypeId} {cs : List Value} {v : Value} {K : Heap → Prop} (H : At h0 h L) (i : Nat) (hi : L[i]? = some (.blk b t cs)) (hj : Nat.ble 1 cs.length = true) (hK : ∀ h', At h0 h' (L.set i (.blk b t (cs.set 0 v))) → K h') : St h ⟨b, 0, none⟩ v K :=
  stAt (j := 0) H i hi hj hK
theorem allocAt {t : TypeId} {cs : List Value} {K : Addr → Heap → Prop} (H : At h0 h L) (hk : ∀ h' b, At h0 h' (.blk b t cs :: L) → K ⟨b, 0, none⟩ h') : Alloc h (.cells cs.toArray t) K :=
  alloc fun h' b e _ => hk h' h.size (H.new e b fun g hg => by rw [show g = h.size from hg]; exact Nat.le_refl _)
variable {α : Type} {sz : Nat} {E : Enc α sz}
theorem ixAt {s : Sl} {l : List α} {i : Int} {K : Addr → Prop} (H : At h0 h L) (n : Nat) (hn : L[n]? = some (.own s sz (E.fl l))) (k : Nat) (hi : i = (k : Int)) (hk : k < l.length) (hK : ∀ e, ElAt s sz k e → K e) : Ix s i sz K :=
  ixR (Own.rd (H.get n hn)) k hi hk hK
theorem ldEl {kd : Kd} {s : Sl} {l : List α} {k j : Nat} {e : Addr} {K : kd.T → Prop} (H : At h0 h L) (n : Nat) (hn : L[n]? = some (.own s sz (E.fl l))) (he : ElAt s sz k e) (hk : k < l.length) (x : kd.T) (hx : (E.cells l[k])[j]? = some (kd.mk x)) (hK : K x) : Ld kd h (e.add j) K :=
  ldR (Own.rd (H.get n hn)) he hk x hx hK
theorem ldEl0 {kd : Kd} {s : Sl} {l : List α} {k : Nat} {e : Addr} {K : kd.T → Prop} (H : At h0 h L) (n : Nat) (hn : L[n]? = some (.own s sz (E.fl l))) (he : ElAt s sz k e) (hk : k < l.length) (x : kd.T) (hx : (E.cells l[k])[0]? = some (kd.mk x)) (hK : K x) : Ld kd h e K :=
  ldR0 (Own.rd (H.get n hn)) he hk x hx hK
/-- An element that was written. -/
theorem ldElS {kd : Kd} {s : Sl} {l : List α} {k j : Nat} {y : α} {e : Addr} {K : kd.T → Prop} (H : At h0 h L) (n : Nat) (hn : L[n]? = some (.own s sz (E.fl (l.set k y)))) (he : ElAt s sz k e) (hk : k < l.length) (x : kd.T) (hx : (E.cells y)[j]? = some (kd.mk x)) (hK : K x) : Ld kd h (e.add j) K :=
  ldR (Own.rd (H.get n hn)) he (by rw [List.length_set]; exact hk) x (by rw [List.getElem_set_self]; exact hx) hK
theorem ldElS0 {kd : Kd} {s : Sl} {l : List α} {k : Nat} {y : α} {e : Addr} {K : kd.T → Prop} (H : At h0 h L) (n : Nat) (hn : L[n]? = some (.own s sz (E.fl (l.set k y)))) (he : ElAt s sz k e) (hk : k < l.length) (x : kd.T) (hx : (E.cells y)[0]? = some (kd.mk x)) (hK : K x) : Ld kd h e K :=
  ldElS (j := 0) H n hn he hk x hx hK
theorem stEl {s : Sl} {l : List α} {k j : Nat} {e : Addr} {v : Value} {K : Heap → Prop} (y : α) (H : At h0 h L) (n : Nat) (hn : L[n]? = some (.own s sz (E.fl l))) (he : ElAt s sz k e) (hk : k < l.length) (hj : Nat.ble (j + 1) sz = true) (hy : E.cells y = (E.cells l[k]).set j v)
    (hK : ∀ h', At h0 h' (L.set n (.own s sz (E.fl (l.set k y)))) → K h') : St h (e.add j) v K :=
  stR (H.get n hn) he hk (Nat.le_of_ble_eq_true hj) y hy fun h' o' u' _ => hK h' (H.turn n hn (r' := .own s sz (E.fl (l.set k y))) u' o' fun _ hg => .inl hg)
theorem stEl0 {s : Sl} {l : List α} {k : Nat} {e : Addr} {v : Value} {K : Heap → Prop} (y : α) (H : At h0 h L) (n : Nat) (hn : L[n]? = some (.own s sz (E.fl l))) (he : ElAt s sz k e) (hk : k < l.length) (hy : E.cells y = (E.cells l[k]).set 0 v)
    (hK : ∀ h', At h0 h' (L.set n (.own s sz (E.fl (l.set k y)))) → K h') : St h e v K :=
  stR0 (H.get n hn) he hk y hy fun h' o' u' _ => hK h' (H.turn n hn (r' := .own s sz (E.fl (l.set k y))) u' o' fun _ hg => .inl hg)
theorem stElS {s : Sl} {l : List α} {k j : Nat} {x : α} {e : Addr} {v : Value} {K : Heap → Prop} (y : α) (H : At h0 h L) (n : Nat) (hn : L[n]? = some (.own s sz (E.fl (l.set k x)))) (he : ElAt s sz k e) (hk : k < l.length) (hj : Nat.ble (j + 1) sz = true) (hy : E.cells y = (E.cells x).set j v)
    (hK : ∀ h', At h0 h' (L.set n (.own s sz (E.fl (l.set k y)))) → K h') : St h (e.add j) v K :=
  stEl (l := l.set k x) y H n hn he (by rw [List.length_set]; exact hk) hj (by rw [List.getElem_set_self]; exact hy) fun h' H' => hK h' (by rwa [List.set_set] at H')
theorem stElS0 {s : Sl} {l : List α} {k : Nat} {x : α} {e : Addr} {v : Value} {K : Heap → Prop} (y : α) (H : At h0 h L) (n : Nat) (hn : L[n]? = some (.own s sz (E.fl (l.set k x)))) (he : ElAt s sz k e) (hk : k < l.length) (hy : E.cells y = (E.cells x).set 0 v)
    (hK : ∀ h', At h0 h' (L.set n (.own s sz (E.fl (l.set k y)))) → K h') : St h e v K :=
  stEl0 (l := l.set k x) y H n hn he (by rw [List.length_set]; exact hk) (by rw [List.getElem_set_self]; exact hy) fun h' H' => hK h' (by rwa [List.set_set] at H')
variable {P : Program} {t ty e : TypeId} {by_ : Nat}
/-- append: the i-th thing grows. -/
theorem appAt {s x : Sl} {xs ys : List α} {K : Sl → Heap → Prop} (hT : ElemT P t e sz by_) (H : At h0 h L) (n : Nat) (hn : L[n]? = some (.own s sz (E.fl xs))) (hx : RdS h sz x (E.fl ys)) (hlen : (xs.length + ys.length) * by_ ≤ 140737488355328) (h63 : xs.length + ys.length ≤ 4611686018427387903)
    (hk : ∀ s' h', At h0 h' (L.set n (.own s' sz (E.fl (xs ++ ys)))) → K s' h') : App P t ty s x h K :=
  appR hT (H.get n hn) hx hlen h63 fun s' h' o' g' => hk s' h' (H.turn n hn (r' := .own s' sz (E.fl (xs ++ ys))) g'.upd o' g'.stp.grow)
theorem app1At {s : Sl} {l : List α} {K : Sl → Heap → Prop} (hT : ElemT P t e sz by_) (H : At h0 h L) (n : Nat) (hn : L[n]? = some (.own s sz (E.fl l))) (x : α) (hlen : (l.length + 1) * by_ ≤ 140737488355328) (h63 : l.length + 1 ≤ 4611686018427387903)
    (hk : ∀ s' h', At h0 h' (L.set n (.own s' sz (E.fl (l ++ [x])))) → K s' h') : Alloc h (.cells (E.cells x).toArray e) fun b h1 => App P t ty s ⟨some b, 1, 1⟩ h1 K :=
  app1 hT x (H.get n hn) hlen h63 fun s' h' o' g' => hk s' h' (H.turn n hn (r' := .own s' sz (E.fl (l ++ [x]))) g'.upd o' g'.stp.grow)
/-- append of one element that lies in a block of its own. -/
theorem app1B {s : Sl} {l : List α} {K : Sl → Heap → Prop} {b : Nat} {tb : TypeId} {cs : List Value} (hT : ElemT P t e sz by_) (H : At h0 h L) (n : Nat) (hn : L[n]? = some (.own s sz (E.fl l))) (m : Nat) (hm : L[m]? = some (.blk b tb cs)) (x : α) (hx : E.cells x = cs)
    (hlen : (l.length + 1) * by_ ≤ 140737488355328) (h63 : l.length + 1 ≤ 4611686018427387903)
    (hk : ∀ s' h', At h0 h' (L.set n (.own s' sz (E.fl (l ++ [x])))) → K s' h') : App P t ty s ⟨some ⟨b, 0, none⟩, 1, 1⟩ h K := by
  refine appAt (ys := [x]) hT H n hn ?_ hlen h63 hk
  rw [E.fl_one, hx]
  have hb : Blk h b tb cs := H.get m hm
  exact (Own.full hb (sz := sz) (n := 1) (by rw [← hx, E.len, Nat.one_mul]) (by decide)).rd
theorem At.of_ext (he : Ext h0.size h0 h) : At h0 h [] := ⟨he, (fun _ h => by cases h), (fun _ h => by cases h), List.Pairwise.nil⟩
/-- What an argument told in the first heap. -/
theorem At.arg {s : Sl} {xs : List Value} {sz : Nat} (H : At h0 h L) (hr : RdS h0 sz s xs) : RdS h sz s xs := hr.ext' H.ext
theorem At.own {s : Sl} {xs : List Value} {sz : Nat} (H : At h0 h L) (n : Nat) (hn : L[n]? = some (.own s sz xs)) : Own h sz s xs := H.get n hn
theorem At.rdo {s : Sl} {xs : List Value} {sz : Nat} (H : At h0 h L) (n : Nat) (hn : L[n]? = some (.own s sz xs)) : RdS h sz s xs := Own.rd (H.get n hn)
theorem At.rdr {s : Sl} {xs : List Value} {sz : Nat} (H : At h0 h L) (n : Nat) (hn : L[n]? = some (.rd s sz xs)) : RdS h sz s xs := H.get n hn
theorem At.n {s : Sl} {l : List α} (H : At h0 h L) (n : Nat) (hn : L[n]? = some (.own s sz (E.fl l))) : s.n = l.length := ownn (H.get n hn)
end
end Go.Proofs.YtniojdaddolnfaaGreat

/-
  Copying within slices, an append of zeros, and slices.Insert.
-/
namespace Go.Proofs.YtniojdaddolnfaaGreat
open Go

section
variable {P : Program} {t tx tn ty e : TypeId} {sz by_ : Nat}
/-- Up to its capacity a slice has cells of some content. -/
theorem own_more {h : Heap} {s : Sl} {xs : List Value} (ho : Own h sz s xs) (m : Nat) (h1 : s.n ≤ m) (h2 : m ≤ s.c) : ∃ zs, zs.length = (m - s.n) * sz ∧ Own h sz ⟨s.a, m, s.c⟩ (xs ++ zs) := by
  obtain ⟨hl, hn, hm, hc⟩ := ho
  rcases hc with ⟨ha, hc⟩ | ⟨g, o, ha, hg, hx, hw⟩
  · have e0 : m = 0 := by omega
    have e1 : s.n = 0 := by omega
    subst e0
    refine ⟨[], by simp, by rw [List.append_nil, hl, e1], Nat.zero_le _, hm, .inl ⟨ha, hc⟩⟩
  · refine ⟨(List.range ((m - s.n) * sz)).map fun j => (cellH h ⟨g, o + s.n * sz + j, none⟩).getD (.bool false), by simp, ?_, h2, hm, .inr ⟨g, o, ha, hg, fun j hj => ?_, hw⟩⟩
    · show _ = m * sz
      rw [List.length_append, List.length_map, List.length_range, hl, ← Nat.add_mul]; congr 1; omega
    · by_cases hjx : j < xs.length
      · rw [hx j hjx, List.getElem?_append_left hjx]
      · rw [List.length_append, List.length_map, List.length_range] at hj
        rw [List.getElem?_append_right (by omega), List.getElem?_map, List.getElem?_range (by omega)]
        have e1 : o + s.n * sz + (j - xs.length) = o + j := by omega
        simp only [Option.map_some, e1]
        have hlt : j < s.c * sz := by
          have : (m - s.n) * sz + s.n * sz = m * sz := by rw [← Nat.add_mul]; congr 1; omega
          have : m * sz ≤ s.c * sz := Nat.mul_le_mul_right _ h2
          omega
        obtain ⟨v, hv⟩ := Option.isSome_iff_exists.1 (hw j hlt).1
        rw [hv]; rfl
theorem mul_lt_le {a n sz j : Nat} (h : a < n) (hj : j < sz) : a * sz + j < n * sz := by
  have : (a + 1) * sz ≤ n * sz := Nat.mul_le_mul_right _ h
  rw [Nat.succ_mul] at this
  omega
/-- 'copy' into a slice from its a-th element on. -/
theorem cpy (hT : ElemT P t e sz by_) {s x : Sl} {h : Heap} {xs ys : List Value} {K : Int → Heap → Prop} (ho : Own h sz s xs) (a m : Nat) (hm : m = min x.n (s.n - a)) (hp : 0 < m) (hx : RdS h sz x ys) (h1 : ∀ u ∈ ys.take (m * sz), u.oneCell' = true)
    (hk : ∀ h', Own h' sz s (xs.take (a * sz) ++ (ys.take (m * sz) ++ xs.drop ((a + m) * sz))) → Upd (fun g => s.blk = some g) h h' → h'.size = h.size → K (m : Int) h') :
    OpT P (Builtin.copy_ #[t, tx] ty #[.slice (cutSl s sz a s.n s.c).a (cutSl s sz a s.n s.c).n (cutSl s sz a s.n s.c).c, .slice x.a x.n x.c]) h [.one (.int .i64)] K := by
  intro w hw
  obtain ⟨hu, ⟨i, z, hi, hz, hsz, hby, hzs⟩, hpos⟩ := hT
  obtain ⟨hl, hn, hmx, hc⟩ := ho
  have han : a < s.n := by omega
  have hmx2 : m ≤ x.n := by omega
  have hma : a + m ≤ s.n := by omega
  have hyl : (ys.take (m * sz)).length = m * sz := by
    rw [List.length_take, hx.1]
    exact Nat.min_eq_left (Nat.mul_le_mul_right _ hmx2)
  obtain ⟨gx, ox, hax, hxc⟩ := hx.2 (by rw [hx.1]; exact Nat.mul_pos (by omega) hpos)
  rcases hc with ⟨_, hc0⟩ | ⟨g, o, ha, hg, hcells, hwr⟩
  · omega
  have hda : (cutSl s sz a s.n s.c).a = some ⟨g, o + a * sz, none⟩ := by
    show (if s.c = a then s.a else s.a.map (·.add (a * sz))) = _
    rw [if_neg (by omega), ha, Option.map_some, add_at]
  have hfc : (Builtin.firstCells sz m (.slice x.a x.n x.c)).run P w = .ok (ys.take (m * sz)).toArray w := by
    rw [hax]
    refine run_firstCells_some w sz m _ x.n x.c _ hyl fun j u hj => ?_
    have hjl : j < (ys.take (m * sz)).length := (List.getElem?_eq_some_iff.1 hj).1
    rw [hyl] at hjl
    rw [List.getElem?_take, if_pos hjl] at hj
    rw [add_at]
    show w.cell? ⟨gx, ox + j, none⟩ = some u
    have hjy : j < ys.length := (List.getElem?_eq_some_iff.1 hj).1
    rw [cell_eq, hw, hxc j hjy, hj]
  have hle : (a + m) * sz ≤ s.n * sz := Nat.mul_le_mul_right _ hma
  have hle2 : s.n * sz ≤ s.c * sz := Nat.mul_le_mul_right _ hn
  rw [Nat.add_mul] at hle
  have hst := run_storeCells_cells (P := P) g (o + a * sz) (ys.take (m * sz)) 0 w
    (fun j hj => by rw [hyl] at hj; rw [Nat.add_zero, Nat.add_assoc, cell_eq, hw]; exact (hwr _ (by omega)).1)
    (fun j hj => by rw [hyl] at hj; rw [Nat.add_zero, Nat.add_assoc, frozen_eq, hw]; exact (hwr _ (by omega)).2) h1
  rw [Nat.add_zero] at hst
  have hmin : Nat.min x.n (s.n - a) = m := hm.symm
  have hrun : (Builtin.copy_ #[t, tx] ty #[.slice (cutSl s sz a s.n s.c).a (cutSl s sz a s.n s.c).n (cutSl s sz a s.n s.c).c, .slice x.a x.n x.c]).run P w = .ok (goInt m) (w.setCells g (o + a * sz) (ys.take (m * sz))) := by
    rw [hda]
    show (Builtin.copy_ #[t, tx] ty #[.slice (some ⟨g, o + a * sz, none⟩) (s.n - a) (s.c - a), .slice x.a x.n x.c]).run P w = _
    simp [Builtin.copy_, run_underlying hu, Builtin.lenOf, sizeOf, typeInfo, hi, hsz, hmin, hfc, hst]
  refine ⟨_, _, hrun, env_setCells w g _ _, ((m : Int), ()), rfl, ?_⟩
  show K (m : Int) (w.setCells g (o + a * sz) (ys.take (m * sz))).heap
  have hfr : ∀ y : Addr, frozenH (w.setCells g (o + a * sz) (ys.take (m * sz))).heap y = frozenH h y := fun y => by rw [← frozen_eq, World.frozen?_setCells, frozen_eq, hw]
  have hsome : ∀ j, j < (ys.take (m * sz)).length → (w.cell? ⟨g, o + a * sz + j, none⟩).isSome = true := fun j hj => by rw [hyl] at hj; rw [Nat.add_assoc, cell_eq, hw]; exact (hwr _ (by omega)).1
  have hin : ∀ j, a * sz ≤ j → j < (a + m) * sz → cellH (w.setCells g (o + a * sz) (ys.take (m * sz))).heap ⟨g, o + j, none⟩ = (ys.take (m * sz))[j - a * sz]? := fun j h2 h3 => by
    rw [Nat.add_mul] at h3
    have hj' : j - a * sz < (ys.take (m * sz)).length := by rw [hyl]; omega
    have := World.cell?_setCells_in g (ys.take (m * sz)) (o + a * sz) w hsome (j - a * sz) hj'
    rw [show o + a * sz + (j - a * sz) = o + j by omega] at this
    rw [← cell_eq, this, List.getElem?_eq_getElem hj']
  have hout : ∀ j, (j < a * sz ∨ (a + m) * sz ≤ j) → cellH (w.setCells g (o + a * sz) (ys.take (m * sz))).heap ⟨g, o + j, none⟩ = cellH h ⟨g, o + j, none⟩ := fun j h2 => by
    rw [← cell_eq, World.cell?_setCells_out g _ _ _ _ (fun _ _ => ?_), cell_eq, hw]
    rw [hyl]
    rcases h2 with h2 | h2
    · exact .inl (by show o + j < o + a * sz; omega)
    · rw [Nat.add_mul] at h2
      exact .inr (by show o + a * sz + m * sz ≤ o + j; omega)
  have htk : (xs.take (a * sz)).length = a * sz := by rw [List.length_take, hl]; exact Nat.min_eq_left (by omega)
  refine hk _ ⟨?_, hn, hmx, .inr ⟨g, o, ha, by rw [size_setCells, hw]; exact hg, fun j hj => ?_, fun j hj => ⟨?_, by rw [hfr]; exact (hwr j hj).2⟩⟩⟩ ⟨by rw [size_setCells, hw]; exact Nat.le_refl _, fun k hk hn => ?_⟩ (by rw [size_setCells, hw])
  · rw [List.length_append, List.length_append, htk, hyl, List.length_drop, hl, Nat.add_mul]; omega
  · by_cases h2 : j < a * sz
    · rw [hout j (.inl h2), List.getElem?_append_left (by omega), List.getElem?_take, if_pos h2, hcells j (by omega)]
    · rw [List.getElem?_append_right (by omega), htk]
      by_cases h3 : j < (a + m) * sz
      · rw [hin j (by omega) h3, List.getElem?_append_left (by rw [hyl]; rw [Nat.add_mul] at h3; omega)]
      · rw [List.length_append, List.length_append, htk, hyl, List.length_drop, hl] at hj
        have h3' : a * sz + m * sz ≤ j := by rw [Nat.add_mul] at h3; omega
        rw [hout j (.inr (by omega)), List.getElem?_append_right (by rw [hyl]; omega), List.getElem?_drop, hyl, hcells j (by rw [Nat.add_mul] at hj; omega)]
        congr 1
        rw [Nat.add_mul]; omega
  · by_cases h2 : a * sz ≤ j ∧ j < (a + m) * sz
    · rw [hin j h2.1 h2.2, List.getElem?_eq_getElem (by rw [hyl]; have := h2.2; rw [Nat.add_mul] at this; omega)]; rfl
    · rw [hout j (by omega)]; exact (hwr j hj).1
  · rw [get_setCells g _ _ w (fun e => hn (by simp [Sl.blk, ha, e])), hw]
/-- 'append(s, make([]T, k)...)' where there is no room. -/
theorem app_zeros (hT : ElemT P t e sz by_) {zs : List Value} (hz0 : ZeroT P e zs) (hzl : zs.length = sz) {kn : IntKind} (htn : P.underlying tn = some (.int kn)) {s : Sl} {h : Heap} {xs : List Value} {K : Sl → Heap → Prop} (hr : RdS h sz s xs) {kk : Int} (k : Nat) (hkk : kk = (k : Int)) (hk0 : 0 < k) (hg : s.c < s.n + k)
    (hlen : (s.n + k) * by_ ≤ 140737488355328) (h63 : s.n + k ≤ 4611686018427387903)
    (hk : ∀ s' h', Own h' sz s' (xs ++ (List.replicate k zs).flatten) → s'.n = s.n + k → s'.from_ h.size → Ext h.size h h' → K s' h') :
    OpT P (Builtin.append_ #[t, tn] ty #[.slice s.a s.n s.c, .int .i64 kk]) h [.one .sl] K := by
  subst hkk
  intro w hw
  obtain ⟨hu, ⟨i, z, hi, hz, hsz, hby, hzs⟩, hpos⟩ := hT
  have hzc : z.cells = zs.toArray := by
    have := hz0.z
    rw [hi] at this
    simpa [hz] using this
  have hfit : Builtin.nextslicecap (s.n + k) s.c * i.bytes ≤ 281474976710656 := by
    have := nextcap_le (s.n + k) s.c hg
    rw [hby]
    calc Builtin.nextslicecap (s.n + k) s.c * by_ ≤ (2 * (s.n + k)) * by_ := Nat.mul_le_mul_right _ this
      _ = 2 * ((s.n + k) * by_) := by rw [Nat.mul_assoc]
      _ ≤ 281474976710656 := by omega
  have h48 : k * i.bytes ≤ 281474976710656 := by
    rw [hby]
    have : k * by_ ≤ (s.n + k) * by_ := Nat.mul_le_mul_right _ (by omega)
    omega
  have hold : (Builtin.firstCells i.size s.n (.slice s.a s.n s.c)).run P w.drew = .ok xs.toArray w.drew := by
    rw [hsz]
    by_cases hx0 : 0 < xs.length
    · obtain ⟨g, o, ha, hcells⟩ := hr.2 hx0
      rw [ha]
      refine run_firstCells_some w.drew sz s.n _ s.n s.c xs hr.1 fun j u hj => ?_
      have hjl : j < xs.length := (List.getElem?_eq_some_iff.1 hj).1
      rw [Addr.add_lit]
      show w.cell? ⟨g, o + j, none⟩ = some u
      rw [cell_eq, hw, hcells j hjl, hj]
    · have hs0 : s.n = 0 := by
        have h1 := hr.1
        rcases Nat.eq_zero_or_pos s.n with h2 | h2
        · exact h2
        · have := Nat.mul_pos h2 hpos; omega
      have hxs : xs = [] := List.eq_nil_of_length_eq_zero (by omega)
      subst hxs
      rw [hs0]
      cases ha : s.a with
      | none => exact run_firstCells_none w.drew sz 0 0 s.c
      | some a => exact run_firstCells_some w.drew sz 0 a 0 s.c [] (by simp) (fun j u hj => by simp at hj)
  have hrun := Lib.run_append_grow_zeros (P := P) w t tn ty e i z .i64 kn hu htn hi hz s.a s.n s.c xs hold k hk0 (by rw [hsz]; exact hpos) hg (by omega) h48 hfit
  have hge := grownCap_ge w (s.n + k) s.c e
  have hle := grownCap_le_maxLen w (s.n + k) s.c e (by simp only [maxLen]; omega)
  refine ⟨_, _, hrun, ⟨rfl, rfl, rfl⟩, ((⟨some ⟨w.heap.size, 0, none⟩, s.n + k, grownCap w (s.n + k) s.c e⟩ : Sl), ()), rfl, ?_⟩
  generalize hG : grownCap w (s.n + k) s.c e = G at *
  have hlen2 : (xs.toArray ++ Builtin.zeroCells z.cells k ++ Builtin.zeroCells z.cells (G - (s.n + k))).toList.length = G * sz := by
    simp only [Array.toList_append, List.length_append, Array.length_toList, size_zeroCells, hzs, hr.1, ← Nat.add_mul]
    congr 1; omega
  have hb := Blk.new w.heap e (xs.toArray ++ Builtin.zeroCells z.cells k ++ Builtin.zeroCells z.cells (G - (s.n + k))).toList
  have hown := Own.of_blk hb (n := s.n + k) hlen2 hge (by simp only [maxLen] at hle; omega)
  have hzk : (Builtin.zeroCells z.cells k).toList = (List.replicate k zs).flatten := by rw [hzc]; exact zc_eq zs k (by omega)
  have htake : ((xs.toArray ++ Builtin.zeroCells z.cells k ++ Builtin.zeroCells z.cells (G - (s.n + k))).toList).take ((s.n + k) * sz) = xs ++ (List.replicate k zs).flatten := by
    have hl3 : (xs ++ (List.replicate k zs).flatten).length = (s.n + k) * sz := by rw [List.length_append, hr.1, Nat.add_mul, ← hzk, Array.length_toList, size_zeroCells, hzs]
    rw [Array.toList_append, Array.toList_append, hzk, ← hl3]
    exact List.take_left
  rw [htake] at hown
  have hheap : (w.drew.alloc (.cells (xs.toArray ++ Builtin.zeroCells z.cells k ++ Builtin.zeroCells z.cells (G - (s.n + k))) e)).heap = w.heap.push (.cells (xs.toArray ++ Builtin.zeroCells z.cells k ++ Builtin.zeroCells z.cells (G - (s.n + k))).toList.toArray e) := rfl
  show K ⟨some ⟨w.heap.size, 0, none⟩, s.n + k, G⟩ (w.drew.alloc _).heap
  rw [hheap]
  refine hk _ _ hown rfl (fun g hg => ?_) ?_
  · simp only [Sl.blk, Option.map_some, Option.some.injEq] at hg
    rw [← hg, hw]; exact Nat.le_refl _
  · rw [← hw]; exact ext_push _ _ (Nat.le_refl _)
/-- A cut reads so. -/
theorem rd_cut (hT : ElemT P t e sz by_) {s : Sl} {h : Heap} {xs : List Value} (hr : RdS h sz s xs) (l u m : Nat) (h1 : l ≤ u) (hu : u ≤ s.n) (h2 : u ≤ m) : RdS h sz (cutSl s sz l u m) ((xs.drop (l * sz)).take ((u - l) * sz)) := by
  refine ⟨?_, fun hp => ?_⟩
  · have e1 : (u - l) * sz + l * sz ≤ s.n * sz := by rw [← Nat.add_mul]; exact Nat.mul_le_mul_right _ (by omega)
    rw [List.length_take, List.length_drop, hr.1]
    show min ((u - l) * sz) _ = (u - l) * sz
    omega
  · have hpos := hT.pos
    rw [List.length_take, List.length_drop] at hp
    obtain ⟨g, o, ha, hx⟩ := hr.2 (by omega)
    have hne : m ≠ l := fun e => by
      have : u - l = 0 := by omega
      rw [this] at hp; simp at hp
    refine ⟨g, o + l * sz, by simp only [cutSl]; rw [if_neg hne, ha]; simp [add_at], fun j hj => ?_⟩
    rw [List.length_take, List.length_drop] at hj
    rw [Nat.add_assoc, hx _ (by omega), List.getElem?_take, if_pos (by omega), List.getElem?_drop]
end
/-! ## slices.overlaps -/
structure OvT (P : Program) (f : FuncId) (t : TypeId) : Prop where
  ex : ∃ (fn : Func) (tr : TypeId), P.funcs[f]? = some fn ∧ (fn.name == "runtime.NumGoroutine") = false ∧ fn.body.isNone = true ∧ Extern.findNext fn = none ∧ Extern.find fn = some (Extern.SlicesOverlaps.overlaps #[t, t] #[tr])
theorem ovl {P : Program} {f t e : TypeId} {sz by_ : Nat} (hO : OvT P f t) (hT : ElemT P t e sz by_) {h : Heap} {b : Nat} {tv : TypeId} {cs : List Value} {n c : Nat} {d : Sl} {g o : Nat} {K : Bool → Heap → Prop} (hb : h[b]? = some (.cells cs.toArray tv (0, 0)))
    (hd : d.a = some ⟨g, o, none⟩) (hgb : b ≠ g) (hg : (cellH h ⟨g, o, none⟩).isSome = true) (hk : K false h) : ExtR P f #[.slice (some ⟨b, 0, none⟩) n c, .slice d.a d.n d.c] h [.one .bool] K := by
  obtain ⟨fn, tr, hf, hname, hbody, hn, he⟩ := hO.ex
  obtain ⟨hu, ⟨i, z, hi, _, hsz, _, _⟩, _⟩ := hT
  intro w hw
  obtain ⟨v, hv⟩ := Option.isSome_iff_exists.1 hg
  have hsb : ∃ tB kB, w.shape? g = some (tB, kB) ∧ kB ≠ 0 := by
    obtain ⟨e', n', h1, h2, _⟩ := World.shape?_of_cell? (w := w) (a := ⟨g, o, none⟩) (v := v) (by rw [cell_eq, hw]; exact hv)
    exact ⟨e', n', h1, by omega⟩
  obtain ⟨tB, kB, hsb, hkB⟩ := hsb
  have hsa : w.shape? b = some (tv, cs.length) := by
    unfold World.shape?
    rw [hw, hb]
    simp
  have hfz : ∀ k, w.frozen? ⟨b, k, none⟩ = false := fun k => by
    unfold World.frozen?
    rw [hw, hb]
    simp
  have hz : ∀ w, (Go.sizeOf e).run P w = .ok sz w := fun w => by rw [← hsz]; exact info_run hi w
  have hov := Lib.run_overlaps_apart (P := P) w t tr e hu sz hz ⟨b, 0, none⟩ ⟨g, o, none⟩ n c d.n d.c hgb tv tB cs.length kB hsa hsb hkB (hfz 0) (hfz _)
  refine ⟨.value (.bool false), w, ?_, Env.refl w, (false, ()), rfl, by rw [hw]; exact hk⟩
  rw [hd]
  rw [run_callFunc_extern hf hname hbody hn he]
  have hov' : (Extern.SlicesOverlaps.overlaps #[t, t] #[tr] #[.slice (some ⟨b, 0, none⟩) n c, .slice (some ⟨g, o, none⟩) d.n d.c]).run P w = .ok (.bool false) w := hov
  rw [hov']
  rfl
/-! ## slices.Insert -/
def InsertS (P : Program) (t tn ov : Nat) (rot : Sl → Int → Heap → (Heap → Prop) → Prop) (s : Sl) (i : Int) (v : Sl) (h : Heap) (R : Sl → Heap → Prop) : Prop :=
  Cut P t s (some (.int .i64 i)) none none fun s1 =>
  Let ((v.n : Int) : Int) fun m =>
  (bif m == 0 then
    R s h
  else
    Let ((s.n : Int) : Int) fun n =>
    (bif i == n then
      App P t t s v h fun s2 h_ =>
      R s2 h_
    else
      (bif decide ((IntKind.i64.wrap (n + m)) > (s.c : Int)) then
        Cut P t s none (some (.int .i64 i)) none fun s3 =>
        OpT P (Builtin.append_ #[t, tn] t #[.slice s3.a s3.n s3.c, .int .i64 (IntKind.i64.wrap ((IntKind.i64.wrap (n + m)) - i))]) h [.one .sl] fun s4 h_1 =>
        Cut P t s4 (some (.int .i64 i)) none none fun s5 =>
        OpT P (Builtin.copy_ #[t, t] tn #[.slice s5.a s5.n s5.c, .slice v.a v.n v.c]) h_1 [.one (.int .i64)] fun n1 h_2 =>
        Cut P t s4 (some (.int .i64 (IntKind.i64.wrap (i + m)))) none none fun s6 =>
        Cut P t s (some (.int .i64 i)) none none fun s7 =>
        OpT P (Builtin.copy_ #[t, t] tn #[.slice s6.a s6.n s6.c, .slice s7.a s7.n s7.c]) h_2 [.one (.int .i64)] fun n2 h_3 =>
        R s4 h_3
      else
        Cut P t s none (some (.int .i64 (IntKind.i64.wrap (n + m)))) none fun s8 =>
        Cut P t s8 (some (.int .i64 (IntKind.i64.wrap (i + m)))) none none fun s9 =>
        ExtR P ov #[.slice v.a v.n v.c, .slice s9.a s9.n s9.c] h [.one .bool] fun (r : Bool) h_4 =>
        (bif !r then
          Cut P t s8 (some (.int .i64 (IntKind.i64.wrap (i + m)))) none none fun s10 =>
          Cut P t s8 (some (.int .i64 i)) none none fun s11 =>
          OpT P (Builtin.copy_ #[t, t] tn #[.slice s10.a s10.n s10.c, .slice s11.a s11.n s11.c]) h_4 [.one (.int .i64)] fun n3 h_5 =>
          Cut P t s8 (some (.int .i64 i)) none none fun s12 =>
          OpT P (Builtin.copy_ #[t, t] tn #[.slice s12.a s12.n s12.c, .slice v.a v.n v.c]) h_5 [.one (.int .i64)] fun n4 h_6 =>
          R s8 h_6
        else
          Cut P t s8 (some (.int .i64 n)) none none fun s13 =>
          OpT P (Builtin.copy_ #[t, t] tn #[.slice s13.a s13.n s13.c, .slice v.a v.n v.c]) h_4 [.one (.int .i64)] fun n5 h_7 =>
          Cut P t s8 (some (.int .i64 i)) none none fun s14 =>
          rot s14 m h_7 fun h_8 =>
          R s8 h_8
        )
      )
    )
  )
section
variable {P : Program} {t tn ov e : TypeId} {sz by_ : Nat} {α : Type} {E : Enc α sz}
theorem cut_from (hT : ElemT P t e sz by_) {s : Sl} {i : Int} {K : Sl → Prop} (a : Nat) (hi : i = (a : Int)) (ha : a ≤ s.n) (hc : s.n ≤ s.c) (hk : K (cutSl s sz a s.n s.c)) : Cut P t s (some (.int .i64 i)) none none K :=
  cut_raw hT a s.n s.c (loi hi) (hi0 _) (.inl ⟨rfl, rfl⟩) ha hc (Nat.le_refl _) hk
theorem insert_ok (hT : ElemT P t e sz by_) {zs : List Value} (hz : ZeroT P e zs) (hzl : zs.length = sz) {kn : IntKind} (htn : P.underlying tn = some (.int kn)) (hO : OvT P ov t) {rot : Sl → Int → Heap → (Heap → Prop) → Prop} {h0 h : Heap} {L : List Res} {s : Sl} {l : List α} {R : Sl → Heap → Prop} {ii : Int}
    (H : At h0 h L) (n : Nat) (hn : L[n]? = some (.own s sz (E.fl l))) (i : Nat) (hii : ii = (i : Int)) (hi : i ≤ l.length) (x : α) {b : Nat} {tv : TypeId} (hb : h[b]? = some (.cells (E.cells x).toArray tv (0, 0))) (hbs : ∀ g, s.blk = some g → g ≠ b) (hlen : (l.length + 1) * by_ ≤ 140737488355328) (h63 : l.length + 1 ≤ 1000000000)
    (hR : ∀ s' h', At h0 h' (L.set n (.own s' sz (E.fl (l.take i ++ x :: l.drop i)))) → R s' h') : InsertS P t tn ov rot s ii ⟨some ⟨b, 0, none⟩, 1, 1⟩ h R := by
  subst hii
  have ho := H.own n hn
  have hsn := ownn ho
  have hsc := ho.2.1
  have hBb : Blk h b tv (E.cells x) := ⟨(0, 0), hb, .inl rfl⟩
  have hv : RdS h sz ⟨some ⟨b, 0, none⟩, 1, 1⟩ (E.fl [x]) := by
    rw [E.fl_one]
    exact (Own.full hBb (sz := sz) (n := 1) (by rw [E.len, Nat.one_mul]) (by decide)).rd
  unfold InsertS
  refine cut_from hT i rfl (by omega) hsc (let_ (brN rfl (let_ ?_)))
  refine br beq_iff_eq (fun he => ?_) fun hne => ?_
  · have hil : i = l.length := by omega
    subst hil
    refine appAt (ys := [x]) hT H n hn hv (by simpa using hlen) (by simp; omega) fun s' h' H' => hR s' h' ?_
    rwa [List.take_length, List.drop_length]
  have hil : i < l.length := by omega
  have hfl : ∀ k, (E.fl l).take (k * sz) = E.fl (l.take k) := fun k => E.fl_take l k
  rw [w64 (n := (s.n : Int) + ((1 : Nat) : Int)) (by omega) (by omega), w64 (n := (i : Int) + ((1 : Nat) : Int)) (by omega) (by omega)]
  refine brD (fun hgt => ?_) fun hle => ?_
  · -- no room
    refine cut_rd hT ho.rd 0 i s.c lo0 (hii rfl) (.inl ⟨rfl, rfl⟩) (Nat.zero_le _) (by omega) (by omega) (Nat.le_refl _) fun s3 r3 n3 c3 b3 => ?_
    rw [Nat.zero_mul, List.drop_zero, Nat.sub_zero, hfl] at r3
    rw [w64 (n := (s.n : Int) + ((1 : Nat) : Int) - (i : Int)) (by omega) (by omega)]
    refine app_zeros hT hz hzl htn r3 (s.n + 1 - i) (by omega) (by omega) (by omega) (by rw [show s3.n + (s.n + 1 - i) = l.length + 1 by omega]; exact hlen) (by omega) fun s4 h1 o4 n4 f4 e4 => ?_
    have n4' : s4.n = l.length + 1 := by omega
    have v1 : RdS h1 sz ⟨some ⟨b, 0, none⟩, 1, 1⟩ (E.fl [x]) := hv.ext' e4
    have tl : (E.fl (l.take i)).length = i * sz := by rw [E.fl_len, List.length_take, Nat.min_eq_left hi]
    refine cut_from hT i rfl (by omega) o4.2.1 ?_
    refine cpy hT o4 i 1 (by show 1 = min 1 (s4.n - i); omega) (by decide) v1 (fun u hu => E.fl_ones [x] u (List.mem_of_mem_take hu)) fun h2 o5 u5 z5 => ?_
    have as : ∀ Z, E.fl (l.take i) ++ (E.fl [x] ++ Z) = (E.fl (l.take i) ++ E.fl [x]) ++ Z := fun Z => (List.append_assoc ..).symm
    rw [List.take_left' tl, show (E.fl [x]).take (1 * sz) = E.fl [x] by rw [Nat.one_mul, List.take_of_length_le (by rw [E.fl_len]; simp)], as] at o5
    refine cut_from hT (i + 1) (by omega) (by omega) o5.2.1 ?_
    refine cut_raw hT i s.n s.c (loi rfl) (hi0 _) (.inl ⟨rfl, rfl⟩) (by omega) hsc (Nat.le_refl _) ?_
    have s4n : ∀ g, s.blk = some g → ¬ s4.blk = some g := fun g hg hg4 => by
      have h1 := ho.below g hg
      have h2 := f4 g hg4
      omega
    have o2 : Own h2 sz s (E.fl l) := (ho.ext' e4).upd u5 s4n
    have r7 : RdS h2 sz (cutSl s sz i s.n s.c) (E.fl (l.drop i)) := by
      have r := rd_cut hT o2.rd i s.n s.c (by omega) (Nat.le_refl _) hsc
      rwa [E.fl_drop, E.fl_take, List.take_of_length_le (by rw [List.length_drop]; omega)] at r
    have hdl : (E.fl (l.drop i)).length = (l.length - i) * sz := by rw [E.fl_len, List.length_drop]
    refine cpy hT o5 (i + 1) (l.length - i) (by show l.length - i = min (s.n - i) (s4.n - (i + 1)); omega) (by omega) r7 (fun u hu => E.fl_ones _ u (List.mem_of_mem_take hu)) fun h3 o6 u6 z6 => ?_
    have hxl : (E.fl (l.take i) ++ E.fl [x]).length = (i + 1) * sz := by rw [List.length_append, tl, E.fl_len, Nat.succ_mul]; simp
    rw [List.take_left' hxl, List.take_of_length_le (l := E.fl (l.drop i)) (by rw [hdl]; exact Nat.le_refl _)] at o6
    have hnil : ((E.fl (l.take i) ++ E.fl [x]) ++ List.drop ((i + 1) * sz) (E.fl (l.take i) ++ (List.replicate (s.n + 1 - i) zs).flatten)).drop ((i + 1 + (l.length - i)) * sz) = [] := by
      apply List.drop_eq_nil_of_le
      have h7 := o5.1
      rw [n4'] at h7
      rw [h7, show i + 1 + (l.length - i) = l.length + 1 by omega]
      exact Nat.le_refl _
    rw [hnil, List.append_nil, ← E.fl_app, ← E.fl_app, List.append_assoc] at o6
    have e3 : Ext h.size h h3 := (e4.trans (u5.ext (by have := e4.1; omega) fun g hg hg4 => by have := f4 g hg4; omega)).trans (u6.ext (by have := e4.1; have := u5.size; omega) fun g hg hg4 => by have := f4 g hg4; omega)
    have U : Upd (fun g => s.blk = some g) h h3 := e3.upd _
    refine hR s4 h3 (H.turn n hn (r' := .own s4 sz (E.fl (l.take i ++ x :: l.drop i))) U o6 fun g hg => .inr (f4 g hg))
  · -- there is room
    obtain ⟨zs2, hz2, o8⟩ := own_more ho (s.n + 1) (by omega) (by omega)
    rw [show s.n + 1 - s.n = 1 by omega, Nat.one_mul] at hz2
    refine cut_raw hT 0 (s.n + 1) s.c lo0 (hii (by omega)) (.inl ⟨rfl, rfl⟩) (Nat.zero_le _) (by omega) (Nat.le_refl _) ?_
    have e8 : cutSl s sz 0 (s.n + 1) s.c = ⟨s.a, s.n + 1, s.c⟩ := by
      unfold cutSl
      congr 1
      split
      · rfl
      · cases s.a with
        | none => rfl
        | some a => rw [Option.map_some, add_zero' a _ (Nat.zero_mul _)]
    rw [e8]
    have fl8 : ∀ g, (⟨s.a, s.n + 1, s.c⟩ : Sl).blk = some g ↔ s.blk = some g := fun g => Iff.rfl
    obtain ⟨g, o, ha, hcells⟩ := ho.rd.2 (by rw [E.fl_len]; exact Nat.mul_pos (by omega) E.pos)
    have hgb : b ≠ g := fun e => hbs g (by simp [Sl.blk, ha]) e.symm
    refine cut_from hT (i + 1) (by omega) (by show i + 1 ≤ s.n + 1; omega) (by show s.n + 1 ≤ s.c; omega) ?_
    have hd9 : (cutSl ⟨s.a, s.n + 1, s.c⟩ sz (i + 1) (s.n + 1) s.c).a = some ⟨g, o + (i + 1) * sz, none⟩ := by
      show (if s.c = i + 1 then s.a else s.a.map (·.add ((i + 1) * sz))) = _
      rw [if_neg (by omega), ha, Option.map_some, add_at]
    have hwr : (cellH h ⟨g, o + (i + 1) * sz, none⟩).isSome = true := by
      rcases ho.2.2.2 with ⟨_, hc0⟩ | ⟨g', o', ha', _, _, hw⟩
      · omega
      · rw [ha] at ha'
        simp only [Option.some.injEq, Addr.mk.injEq, and_true] at ha'
        obtain ⟨rfl, rfl⟩ := ha'
        refine (hw _ ?_).1
        have := mul_lt_le (a := i + 1) (n := s.c) (j := 0) (by omega) E.pos
        simpa using this
    refine ovl hO hT hb hd9 hgb hwr (brY rfl ?_)
    refine cut_from hT (i + 1) (by omega) (by show i + 1 ≤ s.n + 1; omega) (by show s.n + 1 ≤ s.c; omega) ?_
    refine cut_raw hT i (s.n + 1) s.c (loi rfl) (hi0 _) (.inl ⟨rfl, rfl⟩) (by omega) (by show s.n + 1 ≤ s.c; omega) (Nat.le_refl _) ?_
    have r11 : RdS h sz (cutSl ⟨s.a, s.n + 1, s.c⟩ sz i (s.n + 1) s.c) (E.fl (l.drop i) ++ zs2) := by
      have r := rd_cut hT o8.rd i (s.n + 1) s.c (by omega) (Nat.le_refl _) (by omega)
      rwa [List.take_of_length_le (by rw [List.length_drop, List.length_append, E.fl_len, hz2, ← Nat.succ_mul, ← Nat.sub_mul, hsn]; exact Nat.le_refl _), List.drop_append_of_le_length (by rw [E.fl_len]; exact Nat.mul_le_mul_right _ hi), E.fl_drop] at r
    have hdl : (E.fl (l.drop i)).length = (l.length - i) * sz := by rw [E.fl_len, List.length_drop]
    refine cpy hT o8 (i + 1) (l.length - i) (by show l.length - i = min (s.n + 1 - i) (s.n + 1 - (i + 1)); omega) (by omega) r11 (fun u hu => ?_) fun h2 o9 u9 z9 => ?_
    · rw [List.take_append_of_le_length (by rw [hdl]; exact Nat.le_refl _)] at hu
      exact E.fl_ones _ u (List.mem_of_mem_take hu)
    rw [List.take_append_of_le_length (l₁ := E.fl (l.drop i)) (by rw [hdl]; exact Nat.le_refl _), List.take_of_length_le (l := E.fl (l.drop i)) (by rw [hdl]; exact Nat.le_refl _)] at o9
    have hnil : (E.fl l ++ zs2).drop ((i + 1 + (l.length - i)) * sz) = [] := by
      apply List.drop_eq_nil_of_le
      rw [List.length_append, E.fl_len, hz2, ← Nat.succ_mul, show i + 1 + (l.length - i) = l.length + 1 by omega]
      exact Nat.le_refl _
    rw [hnil, List.append_nil, List.take_append_of_le_length (by rw [E.fl_len]; exact Nat.mul_le_mul_right _ hil), hfl] at o9
    refine cut_from hT i rfl (by show i ≤ s.n + 1; omega) (by show s.n + 1 ≤ s.c; omega) ?_
    have v2 : RdS h2 sz ⟨some ⟨b, 0, none⟩, 1, 1⟩ (E.fl [x]) := hv.upd u9 fun g hg hgs => by
      have hg : some b = some g := hg
      injection hg with hg
      exact hbs g hgs hg.symm
    refine cpy hT o9 i 1 (by show 1 = min 1 (s.n + 1 - i); omega) (by decide) v2 (fun u hu => E.fl_ones [x] u (List.mem_of_mem_take hu)) fun h3 o10 u10 z10 => ?_
    have tk : (E.fl (l.take (i + 1)) ++ E.fl (l.drop i)).take (i * sz) = E.fl (l.take i) := by
      rw [← E.fl_app, E.fl_take, List.take_append_of_le_length (by rw [List.length_take]; omega), List.take_take, Nat.min_eq_left (by omega)]
    have dk : (E.fl (l.take (i + 1)) ++ E.fl (l.drop i)).drop ((i + 1) * sz) = E.fl (l.drop i) := by
      rw [← E.fl_app, E.fl_drop, List.drop_left' (by rw [List.length_take]; omega)]
    rw [tk, dk, show (E.fl [x]).take (1 * sz) = E.fl [x] by rw [Nat.one_mul, List.take_of_length_le (by rw [E.fl_len]; simp)], ← E.fl_app, ← E.fl_app] at o10
    refine hR _ h3 (H.turn n hn (r' := .own ⟨s.a, s.n + 1, s.c⟩ sz (E.fl (l.take i ++ x :: l.drop i))) (u9.trans u10 (fun _ _ hg => hg) (fun _ _ hg => hg)) o10 fun g hg => .inl hg)
end
end Go.Proofs.YtniojdaddolnfaaGreat

/-
  Layer 8 (raft): a node in plain Lean.
-/
namespace Go.Proofs.YtniojdaddolnfaaGreat
open Go

structure RE where
  term : Int
  data : ByteArray
structure RM where
  kind : Int
  from_ : Int
  to : Int
  term : Int
  index : Int
  logTerm : Int
  commit : Int
  yes : Bool
  ents : List RE
structure RN where
  id : Int
  n : Int
  elect : Int
  beat : Int
  term : Int
  vote : Int
  role : Int
  leader : Int
  since : Int
  quiet : Int
  commit : Int
  votes : Nat
  heard : Nat
  next : Nat → Int
  matc : Nat → Int
  log : List RE
  out : List RM
  hard : Bool
  from_ : Int
def popT : Nat → Nat → Nat
  | 0, _ => 0
  | k + 1, x => x % 2 + popT k (x / 2)
def lastT (es : List RE) : Int := (es.getLast?.map (·.term)).getD 0
def termAt (es : List RE) (i : Int) : Int × Bool :=
  if i < 0 ∨ i > es.length then (0, false) else if i = 0 then (0, true) else ((es[i.toNat - 1]?.map (·.term)).getD 0, true)
def fromL (es : List RE) (index most : Int) : List RE := (es.drop ((if 1 > index then 1 else index).toNat - 1)).take most.toNat
def youngB (es : List RE) (index term : Int) : Prop := term > lastT es ∨ (term = lastT es ∧ index ≥ es.length)
instance (es : List RE) (i t : Int) : Decidable (youngB es i t) := by unfold youngB; infer_instance
def rSend (X : RN) (to : Int) (m : RM) : RN := { X with out := X.out ++ [{ m with from_ := X.id, to := to }] }
def others (X : RN) (k : Nat) : List Nat := (List.range k).filter fun (t : Nat) => decide ((t : Int) ≠ X.id)
def rAll (X : RN) (m : RM) : RN := { X with out := X.out ++ (others X X.n.toNat).map fun t => { m with from_ := X.id, to := (t : Int) } }
def toMsg (X : RN) (t : Nat) : RM := ⟨5, X.id, t, X.term, X.next t - 1, (termAt X.log (X.next t - 1)).1, X.commit, false, fromL X.log (X.next t - 1 + 1) 8⟩
def rTo (X : RN) (t : Nat) : RN := { X with out := X.out ++ [toMsg X t] }
def rToAll (X : RN) : RN := { X with since := 0, out := X.out ++ (others X X.n.toNat).map (toMsg X) }
def rDirty (X : RN) (i : Int) : RN := { X with from_ := if X.from_ = 0 ∨ i < X.from_ then i else X.from_ }
def rFollow (X : RN) (t l : Int) : RN := if t > X.term then { X with term := t, vote := -1, hard := true, role := 0, leader := l } else { X with role := 0, leader := l }
def cntG (X : RN) (i : Int) : Nat := ((List.range X.n.toNat).filter fun (t : Nat) => decide ((t : Int) = X.id ∨ X.matc t ≥ i)).length
def agreeAt (X : RN) : Nat → Option Nat
  | 0 => none
  | i + 1 => if ((i + 1 : Nat) : Int) ≤ X.commit then none else if (termAt X.log ((i + 1 : Nat) : Int)).1 ≠ X.term then none else if 2 * (cntG X ((i + 1 : Nat) : Int) : Int) > X.n then some (i + 1) else agreeAt X i
def rAgree (X : RN) : RN := match agreeAt X X.log.length with
  | none => X
  | some c => rToAll { X with commit := (c : Int) }
def rAdd (X : RN) (data : ByteArray) : RN × Int :=
  if X.term < lastT X.log then (X, 5) else if X.log.length ≥ 1024 then (X, 7)
  else (rAgree (rToAll (rDirty { X with log := X.log ++ [⟨X.term, data⟩] } ((X.log.length : Int) + 1))), 0)
def rLead0 (X : RN) : RN := { X with since := 0, quiet := 0, role := 3, leader := X.id, heard := 0, next := fun t => if (t : Int) < X.n then (X.log.length : Int) + 1 else X.next t, matc := fun t => if (t : Int) < X.n then 0 else X.matc t }
def rLeads (X : RN) : RN := if (rAdd (rLead0 X) ⟨#[]⟩).2 ≠ 0 then rFollow (rAdd (rLead0 X) ⟨#[]⟩).1 (rAdd (rLead0 X) ⟨#[]⟩).1.term (-1) else (rAdd (rLead0 X) ⟨#[]⟩).1
def mostB (X : RN) (v : Nat) : Prop := 2 * (popT 7 v : Int) > X.n
instance (X : RN) (v : Nat) : Decidable (mostB X v) := inferInstanceAs (Decidable (2 * (popT 7 v : Int) > X.n))
def rStand0 (X : RN) : RN := { X with since := 0, role := 2, votes := 2 ^ X.id.toNat, term := X.term + 1, vote := X.id, hard := true }
def rStands (X : RN) : RN := if mostB X (2 ^ X.id.toNat) then rLeads (rStand0 X) else rAll (rStand0 X) ⟨3, 0, 0, X.term + 1, X.log.length, lastT X.log, 0, false, []⟩
def rAsk0 (X : RN) : RN := { X with since := 0, role := 1, leader := -1, votes := 2 ^ X.id.toNat }
def rAsks (X : RN) : RN := if mostB X (2 ^ X.id.toNat) then rStands (rAsk0 X) else rAll (rAsk0 X) ⟨1, 0, 0, X.term + 1, X.log.length, lastT X.log, 0, false, []⟩
def rBeat (X : RN) : RN := if X.since ≥ X.beat then rToAll X else X
def rLead (X : RN) : RN :=
  if X.quiet + 1 ≥ X.elect then
    if ¬ mostB X (X.heard ||| 2 ^ X.id.toNat) then { rFollow { X with quiet := 0, heard := 0 } X.term (-1) with since := 0 } else rBeat { X with quiet := 0, heard := 0 }
  else rBeat { X with quiet := X.quiet + 1 }
def rTick (X : RN) (draw : Int) : RN :=
  if X.role = 3 then rLead { X with since := X.since + 1 }
  else if X.term < 1099511627776 ∧ X.since + 1 ≥ X.elect + (if 0 > draw then 0 else draw) % X.elect then rAsks { X with since := X.since + 1 } else { X with since := X.since + 1 }
def rPropose (X : RN) (data : ByteArray) : RN × Int × Int :=
  if X.role ≠ 3 then (X, 0, 13) else if data.size > 512 then (X, 0, 4)
  else if (rAdd X data).2 ≠ 0 then ((rAdd X data).1, 0, (rAdd X data).2) else ((rAdd X data).1, ((rAdd X data).1.log.length : Int), 0)
def oddE (t : Int) (e : RE) : Prop := e.term > t ∨ e.term < 1 ∨ e.data.size > 512
instance (t : Int) (e : RE) : Decidable (oddE t e) := by unfold oddE; infer_instance
def countsB (X : RN) (m : RM) : Prop := m.to = X.id ∧ m.from_ ≠ X.id ∧ 0 ≤ m.from_ ∧ m.from_ < X.n ∧ 1 ≤ m.kind ∧ m.kind ≤ 6 ∧ 0 ≤ m.term ∧ m.term ≤ 1099511627776 ∧ m.ents.length ≤ 8 ∧ ∀ e ∈ m.ents, ¬ oddE m.term e
instance (X : RN) (m : RM) : Decidable (countsB X m) := by unfold countsB; infer_instance
def rTold (X : RN) (to : Int) (yes : Bool) (index : Int) : RN := rSend X to ⟨6, 0, 0, X.term, index, 0, 0, yes, []⟩
def preB (X : RN) (m : RM) : Prop := m.term > X.term ∧ youngB X.log m.index m.logTerm ∧ X.role ≠ 3 ∧ (X.leader = -1 ∨ X.since ≥ X.elect)
instance (X : RN) (m : RM) : Decidable (preB X m) := by unfold preB; infer_instance
def rAskPre (X : RN) (m : RM) : RN := rSend X m.from_ ⟨2, 0, 0, if preB X m then m.term else X.term, 0, 0, 0, decide (preB X m), []⟩
def rTellPre (X : RN) (m : RM) : RN :=
  if m.yes = false ∧ m.term > X.term then rFollow X m.term (-1)
  else if m.yes = true ∧ m.term = X.term + 1 ∧ X.role = 1 then
    if mostB X (X.votes ||| 2 ^ m.from_.toNat) then rStands { X with votes := X.votes ||| 2 ^ m.from_.toNat } else { X with votes := X.votes ||| 2 ^ m.from_.toNat }
  else X
def voteB (X : RN) (m : RM) : Prop := (X.vote = -1 ∨ X.vote = m.from_) ∧ X.role ≠ 3 ∧ youngB X.log m.index m.logTerm
instance (X : RN) (m : RM) : Decidable (voteB X m) := by unfold voteB; infer_instance
def rAskVote (X : RN) (m : RM) : RN :=
  rSend (if voteB X m then { X with hard := X.hard || (X.vote != m.from_), vote := m.from_, since := 0 } else X) m.from_ ⟨4, 0, 0, X.term, 0, 0, 0, decide (voteB X m), []⟩
def rTellVote (X : RN) (m : RM) : RN :=
  if m.yes = false ∨ X.role ≠ 2 then X
  else if mostB X (X.votes ||| 2 ^ m.from_.toNat) then rLeads { X with votes := X.votes ||| 2 ^ m.from_.toNat } else { X with votes := X.votes ||| 2 ^ m.from_.toNat }
def upd (f : Nat → Int) (k : Nat) (v : Int) : Nat → Int := fun t => if t = k then v else f t
def rHear0 (X : RN) (k : Nat) : RN := { X with heard := X.heard ||| 2 ^ k }
def mx (a b : Int) : Int := if b > a then b else a
def rHear1 (X : RN) (k : Nat) (i : Int) : RN := { rHear0 X k with matc := upd X.matc k (mx (X.matc k) i), next := upd X.next k (mx (X.matc k) i + 1) }
def mn (a b : Int) : Int := if b < a then b else a
def rHear2 (X : RN) (k : Nat) (i : Int) : RN := { rHear0 X k with next := upd X.next k (mx (mn (mn (mx i 0) X.log.length + 1) (X.next k - 1)) (X.matc k + 1)) }
def rHears (X : RN) (m : RM) : RN :=
  if X.role ≠ 3 then X
  else if m.yes = true ∧ 0 ≤ m.index ∧ m.index ≤ X.log.length then
    if (rAgree (rHear1 X m.from_.toNat m.index)).matc m.from_.toNat < X.log.length then rTo (rAgree (rHear1 X m.from_.toNat m.index)) m.from_.toNat else rAgree (rHear1 X m.from_.toNat m.index)
  else if m.yes = false then rTo (rHear2 X m.from_.toNat m.index) m.from_.toNat else rHear0 X m.from_.toNat
def rNewer (X : RN) (m : RM) : RN := if m.term > X.term then rFollow X m.term (-1) else X
/-- A message that brings no entries. -/
def rStep (X : RN) (m : RM) : RN :=
  if ¬ countsB X m then X
  else if m.kind = 1 then rAskPre X m else if m.kind = 2 then rTellPre X m
  else if m.term < (rNewer X m).term then (if m.kind = 5 then rTold (rNewer X m) m.from_ false 0 else rNewer X m)
  else if m.kind = 3 then rAskVote (rNewer X m) m else if m.kind = 4 then rTellVote (rNewer X m) m else rHears (rNewer X m) m
def rNew (id n elect beat term vote : Int) (es : List RE) : RN := ⟨id, n, elect, beat, term, vote, 0, -1, 0, 0, 0, 0, 0, fun _ => 0, fun _ => 0, es, [], false, 0⟩
/-- A state that may be. -/
def rightR (term vote : Int) (es : List RE) : Prop := (∀ e ∈ es, 1 ≤ e.term ∧ e.term ≤ term ∧ e.data.size ≤ 512) ∧ (es.Pairwise fun a b => a.term ≤ b.term) ∧ 0 ≤ term ∧ term ≤ 1099511627776 ∧ -1 ≤ vote ∧ vote < 7 ∧ es.length ≤ 1024
/-! ## What always holds -/
structure ROk (k : Nat) (X : RN) : Prop where
  n1 : 1 ≤ X.n
  n7 : X.n ≤ 7
  id0 : 0 ≤ X.id
  idn : X.id < X.n
  el1 : 1 ≤ X.elect
  el2 : X.elect ≤ 1000
  be1 : 1 ≤ X.beat
  be2 : X.beat ≤ X.elect
  t0 : 0 ≤ X.term
  t1 : X.term ≤ 1099511627776
  s0 : 0 ≤ X.since
  s1 : X.since ≤ k
  q0 : 0 ≤ X.quiet
  q1 : X.quiet ≤ k
  c0 : 0 ≤ X.commit
  c1 : X.commit ≤ X.log.length
  v : X.votes < 128
  h : X.heard < 128
  nx : ∀ t, 0 ≤ X.next t ∧ X.next t ≤ 1025
  mt : ∀ t, 0 ≤ X.matc t ∧ X.matc t ≤ 1024
  l : X.log.length ≤ 1024
theorem pow7 {n : Int} (h0 : 0 ≤ n) (h7 : n < 7) : 2 ^ n.toNat < 128 := Nat.pow_lt_pow_right (a := 2) (m := n.toNat) (n := 7) (by decide) (by omega)
theorem or7 {a : Nat} {n : Int} (ha : a < 128) (h0 : 0 ≤ n) (h7 : n < 7) : a ||| 2 ^ n.toNat < 128 := Nat.or_lt_two_pow (n := 7) ha (pow7 h0 h7)
end Go.Proofs.YtniojdaddolnfaaGreat

/-
  Layer 10 (group), plain: what is known of votes, leaders' logs and what was acknowledged; who leads later has what was committed.
-/
namespace Go.Proofs.YtniojdaddolnfaaGreat

/-! ## Prefixes -/
theorem pre_take {p q : List RE} (h : p <+: q) : p = q.take p.length := List.prefix_iff_eq_take.1 h
theorem take_pre (l : List RE) (n : Nat) : l.take n <+: l := List.take_prefix n l
theorem pre_len {p q : List RE} (h : p <+: q) : p.length ≤ q.length := h.length_le
theorem pre_both {p q l : List RE} (hp : p <+: l) (hq : q <+: l) (h : p.length ≤ q.length) : p <+: q := List.prefix_of_prefix_length_le hp hq h
theorem pre_take2 {l : List RE} {a b : Nat} (h : a ≤ b) : l.take a <+: l.take b := by
  refine pre_both (take_pre l a) (take_pre l b) ?_
  rw [List.length_take, List.length_take]; omega
theorem take_of_pre {p q : List RE} (h : p <+: q) {n : Nat} (hn : n ≤ p.length) : p.take n = q.take n := by
  rw [pre_take h, List.take_take, Nat.min_eq_left hn]
theorem get_of_pre {p q : List RE} (h : p <+: q) {n : Nat} (hn : n < p.length) : q[n]? = p[n]? := by
  obtain ⟨r, rfl⟩ := h
  rw [List.getElem?_append_left hn]
theorem pre_same {p q : List RE} (h1 : p <+: q) (h2 : q.length ≤ p.length) : p = q := h1.eq_of_length_le h2
/-! ## Majorities -/
def Maj (k : Nat) (P : Nat → Prop) : Prop := ∃ q : Nat → Bool, (∀ i, q i = true → i < k ∧ P i) ∧ k < 2 * (List.range k).countP q
theorem count_and (q r : Nat → Bool) : ∀ k, (List.range k).countP q + (List.range k).countP r ≤ k + (List.range k).countP (fun i => q i && r i) := by
  intro k
  induction k with
  | zero => exact Nat.le_refl _
  | succ k ih =>
    rw [List.range_succ, List.countP_append, List.countP_append, List.countP_append, List.countP_singleton, List.countP_singleton, List.countP_singleton]
    cases q k <;> cases r k <;> simp <;> omega
theorem Maj.meet {k : Nat} {P Q : Nat → Prop} (h1 : Maj k P) (h2 : Maj k Q) : ∃ i, i < k ∧ P i ∧ Q i := by
  obtain ⟨q, hq, cq⟩ := h1
  obtain ⟨r, hr, cr⟩ := h2
  have := count_and q r k
  have hp : 0 < (List.range k).countP (fun i => q i && r i) := by omega
  obtain ⟨i, _, hi⟩ := List.countP_pos_iff.1 hp
  rw [Bool.and_eq_true] at hi
  exact ⟨i, (hq i hi.1).1, (hq i hi.1).2, (hr i hi.2).2⟩
theorem Maj.mono {k : Nat} {P Q : Nat → Prop} (h : Maj k P) (hpq : ∀ i, i < k → P i → Q i) : Maj k Q := by
  obtain ⟨q, hq, cq⟩ := h
  exact ⟨q, fun i hi => ⟨(hq i hi).1, hpq i (hq i hi).1 (hq i hi).2⟩, cq⟩
/-! ## What was -/
/-- What a node keeps. -/
structure DS where
  term : Int
  vote : Int
  log : List RE
/-- Votes; leaders' logs, and who they are; what was acknowledged; candidates' logs. -/
structure GH where
  V : Nat → Int → Int
  ll : Int → List RE
  ld : Int → Int
  ack : Nat → Int → Nat
  cl : Int → Int → Option (List RE)
def LM (g : GH) (l : List RE) : Prop := ∀ j, (hj : j < l.length) → l.take (j + 1) <+: g.ll l[j].term
def Mono (l : List RE) : Prop := l.Pairwise fun a b => a.term ≤ b.term
def Ter (l : List RE) (T : Int) : Prop := ∀ e ∈ l, 1 ≤ e.term ∧ e.term ≤ T
/-- An entry of the leader's own. -/
def Ow (g : GH) (t : Int) (j : Nat) : Prop := 1 ≤ j ∧ ∃ e, (g.ll t)[j - 1]? = some e ∧ e.term = t
def Bd (g : GH) (t : Int) (j : Nat) (u : Int) : Prop := t < u ∧ g.ll u ≠ [] ∧ ¬ (g.ll t).take j <+: g.ll u
def Kp (g : GH) (v : Nat) (T : Int) (l : List RE) : Prop := ∀ t j, j ≤ g.ack v t → Ow g t j → (g.ll t).take j <+: l ∨ ∃ u, u ≤ T ∧ Bd g t j u
def Utd (c l : List RE) : Prop := lastT c > lastT l ∨ (lastT c = lastT l ∧ l.length ≤ c.length)
def Rec (g : GH) (t c : Int) (v : Nat) : Prop := ∃ lv lc, g.cl t c = some lc ∧ LM g lv ∧ Mono lv ∧ Utd lc lv ∧ ∀ t0 j, t0 < t → j ≤ g.ack v t0 → Ow g t0 j → (g.ll t0).take j <+: lv ∨ ∃ u, u < t ∧ Bd g t0 j u
def Com (k : Nat) (g : GH) (t : Int) (j : Nat) : Prop := Ow g t j ∧ Maj k fun v => j ≤ g.ack v t
def Cm (k : Nat) (g : GH) (T : Int) (p : List RE) : Prop := p = [] ∨ ∃ t j, t ≤ T ∧ Com k g t j ∧ p <+: (g.ll t).take j
theorem Ow.len {g : GH} {t : Int} {j : Nat} (h : Ow g t j) : j ≤ (g.ll t).length := by
  obtain ⟨h1, e, h2, _⟩ := h
  have := (List.getElem?_eq_some_iff.1 h2).1
  omega
theorem Ow.ne {g : GH} {t : Int} {j : Nat} (h : Ow g t j) : g.ll t ≠ [] := fun e => by
  have := h.len
  have := h.1
  rw [e] at *
  simp at *
  omega
/-- A leader's log. -/
structure LL (k : Nat) (g : GH) (t : Int) : Prop where
  lm : LM g (g.ll t)
  mono : Mono (g.ll t)
  ter : Ter (g.ll t) t
  t1 : 1 ≤ t
  who : 0 ≤ g.ld t ∧ g.ld t < k
  base : ∃ b e, g.cl t (g.ld t) = some b ∧ e.term = t ∧ b ++ [e] <+: g.ll t ∧ Ter b (t - 1) ∧ ∀ x ∈ (g.ll t).drop b.length, x.term = t
  maj : Maj k fun v => g.V v t = g.ld t ∧ Rec g t (g.ld t) v
theorem lastT_last {l : List RE} (h : 0 < l.length) : lastT l = l[l.length - 1].term := by
  unfold lastT
  rw [List.getLast?_eq_getElem?, List.getElem?_eq_getElem (by omega)]
  rfl
theorem lastT_nil : lastT [] = 0 := rfl
theorem LM.last {g : GH} {l : List RE} (h : LM g l) (hl : 0 < l.length) : l <+: g.ll (lastT l) := by
  have := h (l.length - 1) (by omega)
  rw [lastT_last hl]
  rwa [Nat.sub_add_cancel hl, List.take_length] at this
theorem Mono.last {l : List RE} (h : Mono l) {j : Nat} (hj : j < l.length) : l[j].term ≤ lastT l := by
  rw [lastT_last (by omega)]
  rcases Nat.lt_or_ge j (l.length - 1) with h1 | h1
  · exact List.pairwise_iff_getElem.1 h j (l.length - 1) hj (by omega) h1
  · have : j = l.length - 1 := by omega
    simp only [this]; exact Int.le_refl _
theorem Ow.last {g : GH} {t : Int} {j : Nat} (h : Ow g t j) {l : List RE} (hp : (g.ll t).take j <+: l) (hm : Mono l) : t ≤ lastT l := by
  obtain ⟨h1, e, h2, h3⟩ := h
  have hl := Ow.len ⟨h1, e, h2, h3⟩
  have hlen : ((g.ll t).take j).length = j := by rw [List.length_take]; omega
  have h4 : l[j - 1]? = some e := by
    rw [get_of_pre hp (by omega), List.getElem?_take_of_lt (by omega), h2]
  obtain ⟨h5, h6⟩ := List.getElem?_eq_some_iff.1 h4
  have := hm.last h5
  rw [h6, h3] at this
  exact this
/-- Who leads later has what was committed. -/
theorem lc {k : Nat} {g : GH} (I : ∀ t, g.ll t ≠ [] → LL k g t) {t : Int} {j : Nat} (hc : Com k g t j) : ∀ (n : Nat) (u : Int), (u - t).toNat ≤ n → t < u → g.ll u ≠ [] → (g.ll t).take j <+: g.ll u := by
  intro n
  induction n with
  | zero => intro u h1 h2; omega
  | succ n ih =>
    intro u hu htu hne
    have hlen : ((g.ll t).take j).length = j := by rw [List.length_take]; have := hc.1.len; omega
    have hj1 := hc.1.1
    obtain ⟨b, e, hcl, het, hbe, hbt, _⟩ := (I u hne).base
    obtain ⟨v, hv, ⟨_, lv, lc', hcl2, hlm, hmono, hutd, hkeep⟩, hack⟩ := (I u hne).maj.meet hc.2
    obtain rfl : b = lc' := by rw [hcl] at hcl2; injection hcl2
    have hsmall : ∀ w, t < w → w < u → g.ll w ≠ [] → (g.ll t).take j <+: g.ll w := fun w h1 h2 h3 => ih w (by omega) h1 h3
    have hpv : (g.ll t).take j <+: lv := by
      rcases hkeep t j htu hack hc.1 with h | ⟨w, hw, hb⟩
      · exact h
      · exact absurd (hsmall w hb.1 hw hb.2.1) hb.2.2
    have hlast := hc.1.last hpv hmono
    have ht1 := (I t hc.1.ne).t1
    have hlv : 0 < lv.length := by have := pre_len hpv; omega
    have hbpre : b <+: g.ll u := (List.prefix_append b [e]).trans hbe
    have hbl : 0 < b.length := by
      rcases Nat.eq_zero_or_pos b.length with h0 | h0
      · have : b = [] := List.eq_nil_of_length_eq_zero h0
        subst this
        rcases hutd with h | h
        · rw [lastT_nil] at h; omega
        · rw [lastT_nil] at h; omega
      · exact h0
    have hblm : LM g b := fun i hi => by
      have h1 := (I u hne).lm i (by have := pre_len hbpre; omega)
      have h2 : (g.ll u)[i]'(by have := pre_len hbpre; omega) = b[i] := by
        have := get_of_pre hbpre hi
        rw [List.getElem?_eq_getElem hi, List.getElem?_eq_getElem (by have := pre_len hbpre; omega)] at this
        injection this
      rw [h2] at h1
      rwa [take_of_pre hbpre (by omega)]
    have hblast : b <+: g.ll (lastT b) := hblm.last hbl
    have hb2 : lastT b < u := by
      rw [lastT_last hbl]
      have := (hbt _ (List.getElem_mem (by omega : b.length - 1 < b.length))).2
      omega
    refine List.IsPrefix.trans ?_ hbpre
    rcases hutd with h | ⟨h1, h2⟩
    · have h3 := hsmall (lastT b) (by omega) hb2 (fun h0 => by rw [h0] at hblast; have h9 := pre_len hblast; rw [List.length_nil] at h9; omega)
      rcases Nat.lt_or_ge b.length j with h4 | h4
      · have h5 : b <+: g.ll t := (pre_both hblast h3 (by omega)).trans (take_pre _ _)
        have h6 : (g.ll t)[b.length - 1]? = some b[b.length - 1] := by rw [get_of_pre h5 (by omega), List.getElem?_eq_getElem (by omega)]
        have h7 := ((I t hc.1.ne).ter _ (List.mem_of_getElem? h6)).2
        rw [← lastT_last hbl] at h7
        omega
      · exact pre_both h3 hblast (by omega)
    · have h3 := hlm.last hlv
      rw [← h1] at h3
      exact hpv.trans (pre_both h3 hblast h2)
theorem lc' {k : Nat} {g : GH} (I : ∀ t, g.ll t ≠ [] → LL k g t) {t u : Int} {j : Nat} (hc : Com k g t j) (h : t ≤ u) (hne : g.ll u ≠ []) : (g.ll t).take j <+: g.ll u := by
  rcases Int.lt_or_eq_of_le h with h | rfl
  · exact lc I hc _ u (Nat.le_refl _) h hne
  · exact take_pre _ _
theorem Cm.pre {k : Nat} {g : GH} (I : ∀ t, g.ll t ≠ [] → LL k g t) {T : Int} {p : List RE} (h : Cm k g T p) (hne : g.ll T ≠ []) : p <+: g.ll T := by
  rcases h with rfl | ⟨t, j, h1, h2, h3⟩
  · exact List.nil_prefix
  · exact h3.trans (lc' I h2 h1 hne)
theorem Cm.sub {k : Nat} {g : GH} {T U : Int} {p q : List RE} (h : Cm k g T p) (hq : q <+: p) (hu : T ≤ U) : Cm k g U q := by
  rcases h with rfl | ⟨t, j, h1, h2, h3⟩
  · exact .inl (List.prefix_nil.1 hq)
  · exact .inr ⟨t, j, by omega, h2, hq.trans h3⟩
/-- What is committed is one row. -/
theorem Cm.one {k : Nat} {g : GH} (I : ∀ t, g.ll t ≠ [] → LL k g t) {T U : Int} {p q : List RE} (hp : Cm k g T p) (hq : Cm k g U q) : p <+: q ∨ q <+: p := by
  rcases hp with rfl | ⟨t, i, _, h2, h3⟩
  · exact .inl List.nil_prefix
  rcases hq with rfl | ⟨u, j, _, h5, h6⟩
  · exact .inr List.nil_prefix
  have key : ∀ {t u : Int} {i j : Nat} {p q : List RE}, t ≤ u → Com k g t i → Com k g u j → p <+: (g.ll t).take i → q <+: (g.ll u).take j → p <+: q ∨ q <+: p := fun {t u i j p q} htu h2 h5 h3 h6 => by
    have a1 : p <+: g.ll u := h3.trans (lc' I h2 htu h5.1.ne)
    have a2 : q <+: g.ll u := h6.trans (take_pre _ _)
    rcases Nat.le_total p.length q.length with h | h
    · exact .inl (pre_both a1 a2 h)
    · exact .inr (pre_both a2 a1 h)
  rcases Int.le_total t u with h | h
  · exact key h h2 h5 h3 h6
  · exact (key h h5 h2 h6 h3).symm
end Go.Proofs.YtniojdaddolnfaaGreat

/-
  Layer 10 (group), plain: what is known grows; what it says of nodes and messages stays.
-/
namespace Go.Proofs.YtniojdaddolnfaaGreat

/-! ## More is known -/
structure GLe (g g' : GH) : Prop where
  V : ∀ v t, g.V v t = -1 ∨ g'.V v t = g.V v t
  ll : ∀ t, g.ll t <+: g'.ll t
  ld : ∀ t, g.ll t ≠ [] → g'.ld t = g.ld t
  ack : ∀ v t, g.ack v t ≤ g'.ack v t
  ackf : ∀ v t u, g.V v u ≠ -1 → t < u → g'.ack v t = g.ack v t
  cl : ∀ t c l, g.cl t c = some l → g'.cl t c = some l
/-- What holds of it always. -/
structure GI (k : Nat) (g : GH) : Prop where
  L : ∀ t, g.ll t ≠ [] → LL k g t
  A : ∀ v t, g.ack v t ≤ (g.ll t).length
/-- One node's doing. -/
structure GBy (i : Nat) (g g' : GH) : Prop extends GLe g g' where
  oV : ∀ v, v ≠ i → g'.V v = g.V v
  oA : ∀ v, v ≠ i → g'.ack v = g.ack v
  oC : ∀ t (v : Nat), v ≠ i → g'.cl t v = g.cl t v
  oL : ∀ t, (g'.ll t = g.ll t ∧ g'.ld t = g.ld t) ∨ g'.ld t = i
theorem pre_nil {p q : List RE} (h : p <+: q) (hp : p ≠ []) : q ≠ [] := fun e => by
  rw [e] at h
  exact hp (List.prefix_nil.1 h)
theorem GLe.refl (g : GH) : GLe g g := ⟨fun _ _ => .inr rfl, fun _ => List.prefix_refl _, fun _ _ => rfl, fun _ _ => Nat.le_refl _, fun _ _ _ _ _ => rfl, fun _ _ _ h => h⟩
theorem GBy.refl (i : Nat) (g : GH) : GBy i g g := ⟨GLe.refl g, fun _ _ => rfl, fun _ _ => rfl, fun _ _ _ => rfl, fun _ => .inl ⟨rfl, rfl⟩⟩
theorem GLe.trans {a b c : GH} (h : GLe a b) (k : GLe b c) : GLe a c := by
  have hV : ∀ v u, a.V v u ≠ -1 → b.V v u ≠ -1 := fun v u hn => by
    rcases h.V v u with e | e
    · exact absurd e hn
    · rw [e]; exact hn
  refine ⟨fun v t => ?_, fun t => (h.ll t).trans (k.ll t), fun t ht => ?_, fun v t => Nat.le_trans (h.ack v t) (k.ack v t), fun v t u hu htu => ?_, fun t c l hl => k.cl t c l (h.cl t c l hl)⟩
  · by_cases e : a.V v t = -1
    · exact .inl e
    · refine .inr ?_
      rcases h.V v t with e1 | e1
      · exact absurd e1 e
      · rcases k.V v t with e2 | e2
        · rw [e1] at e2; exact absurd e2 e
        · rw [e2, e1]
  · rw [k.ld t (pre_nil (h.ll t) ht), h.ld t ht]
  · rw [k.ackf v t u (hV v u hu) htu, h.ackf v t u hu htu]
theorem GBy.trans {i : Nat} {a b c : GH} (h : GBy i a b) (k : GBy i b c) : GBy i a c := by
  refine ⟨h.toGLe.trans k.toGLe, fun v hv => (k.oV v hv).trans (h.oV v hv), fun v hv => (k.oA v hv).trans (h.oA v hv), fun t v hv => (k.oC t v hv).trans (h.oC t v hv), fun t => ?_⟩
  rcases k.oL t with ⟨e1, e2⟩ | e
  · rcases h.oL t with ⟨e3, e4⟩ | e3
    · exact .inl ⟨e1.trans e3, e2.trans e4⟩
    · exact .inr (e2.trans e3)
  · exact .inr e
section
variable {k : Nat} {g g' : GH} {t u T : Int} {j v i : Nat} {l : List RE}
theorem LM.grow (h : LM g l) (G : GLe g g') : LM g' l := fun j hj => (h j hj).trans (G.ll _)
theorem LM.sub {p : List RE} (h : LM g l) (hp : p <+: l) : LM g p := fun j hj => by
  have hl := pre_len hp
  have e : l[j]'(by omega) = p[j] := by
    have := get_of_pre hp hj
    rw [List.getElem?_eq_getElem hj, List.getElem?_eq_getElem (by omega)] at this
    injection this
  have := h j (by omega)
  rw [e] at this
  rwa [take_of_pre hp (by omega)]
theorem Mono.sub {p : List RE} (h : Mono l) (hp : p <+: l) : Mono p := List.Pairwise.sublist hp.sublist h
theorem Ter.sub {p : List RE} (h : Ter l T) (hp : p <+: l) : Ter p T := fun e he => h e (hp.subset he)
theorem Ter.up (h : Ter l T) (hu : T ≤ u) : Ter l u := fun e he => by have := h e he; omega
theorem Ow.grow (h : Ow g t j) (G : GLe g g') : Ow g' t j := by
  obtain ⟨h1, e, h2, h3⟩ := h
  exact ⟨h1, e, by rw [get_of_pre (G.ll t) (List.getElem?_eq_some_iff.1 h2).1, h2], h3⟩
theorem Ow.back (h : Ow g' t j) (G : GLe g g') (hl : j ≤ (g.ll t).length) : Ow g t j := by
  obtain ⟨h1, e, h2, h3⟩ := h
  exact ⟨h1, e, by rw [← get_of_pre (G.ll t) (by omega), h2], h3⟩
theorem take_ll (G : GLe g g') (hj : j ≤ (g.ll t).length) : (g'.ll t).take j = (g.ll t).take j := (take_of_pre (G.ll t) hj).symm
theorem Bd.grow (I : GI k g) (G : GLe g g') (ho : Ow g t j) (h : Bd g t j u) : Bd g' t j u := by
  obtain ⟨h1, h2, h3⟩ := h
  refine ⟨h1, pre_nil (G.ll u) h2, fun hp => ?_⟩
  rw [take_ll G ho.len] at hp
  have hlen : ((g.ll t).take j).length = j := by rw [List.length_take]; have := ho.len; omega
  by_cases hl : j ≤ (g.ll u).length
  · exact h3 (pre_both hp (G.ll u) (by omega))
  · have h4 : g.ll u <+: g.ll t := (pre_both (G.ll u) hp (by omega)).trans (take_pre _ _)
    obtain ⟨b, e, _, h5, h6, _⟩ := (I.L u h2).base
    have h7 : e ∈ g.ll t := h4.subset (h6.subset (by simp))
    have := ((I.L t ho.ne).ter e h7).2
    omega
theorem Kp.grow (I : GI k g) (G : GLe g g') (ha : ∀ t, g'.ack v t = g.ack v t) (h : Kp g v T l) : Kp g' v T l := fun t j hj ho => by
  rw [ha] at hj
  have hl := Nat.le_trans hj (I.A v t)
  have ho' := ho.back G hl
  rw [take_ll G hl]
  rcases h t j hj ho' with h1 | ⟨u, h1, h2⟩
  · exact .inl h1
  · exact .inr ⟨u, h1, h2.grow I G ho'⟩
theorem Kp.up (h : Kp g v T l) (hu : T ≤ u) : Kp g v u l := fun t j hj ho => by
  rcases h t j hj ho with h1 | ⟨w, h1, h2⟩
  · exact .inl h1
  · exact .inr ⟨w, by omega, h2⟩
theorem Kp.more {l' : List RE} (h : Kp g v T l) (hp : l <+: l') : Kp g v T l' := fun t j hj ho => by
  rcases h t j hj ho with h1 | h1
  · exact .inl (h1.trans hp)
  · exact .inr h1
theorem Rec.grow {c : Int} (I : GI k g) (G : GLe g g') (hV : g.V v t ≠ -1) (h : Rec g t c v) : Rec g' t c v := by
  obtain ⟨lv, lc, h1, h2, h3, h4, h5⟩ := h
  refine ⟨lv, lc, G.cl _ _ _ h1, h2.grow G, h3, h4, fun t0 j ht hj ho => ?_⟩
  rw [G.ackf v t0 t hV ht] at hj
  have hl := Nat.le_trans hj (I.A v t0)
  have ho' := ho.back G hl
  rw [take_ll G hl]
  rcases h5 t0 j ht hj ho' with h6 | ⟨u, h6, h7⟩
  · exact .inl h6
  · exact .inr ⟨u, h6, h7.grow I G ho'⟩
theorem Com.grow (G : GLe g g') (h : Com k g t j) : Com k g' t j := ⟨h.1.grow G, h.2.mono fun v _ hv => Nat.le_trans hv (G.ack v t)⟩
theorem Cm.grow {p : List RE} (G : GLe g g') (h : Cm k g T p) : Cm k g' T p := by
  rcases h with h | ⟨t, j, h1, h2, h3⟩
  · exact .inl h
  · exact .inr ⟨t, j, h1, h2.grow G, by rw [take_ll G h2.1.len]; exact h3⟩
theorem LL.grow (I : GI k g) (G : GLe g g') (h : LL k g t) (h1 : g'.ll t = g.ll t) (h2 : g'.ld t = g.ld t) : LL k g' t := by
  refine ⟨by rw [h1]; exact h.lm.grow G, by rw [h1]; exact h.mono, by rw [h1]; exact h.ter, h.t1, by rw [h2]; exact h.who, ?_, ?_⟩
  · obtain ⟨b, e, h3, h4⟩ := h.base
    exact ⟨b, e, by rw [h2]; exact G.cl _ _ _ h3, by rw [h1]; exact h4⟩
  · rw [h2]
    refine h.maj.mono fun v _ hv => ?_
    have hw := h.who
    have hn : g.V v t ≠ -1 := by rw [hv.1]; omega
    refine ⟨?_, hv.2.grow I G hn⟩
    rcases G.V v t with e | e
    · exact absurd e hn
    · rw [e]; exact hv.1
end
/-! ## What a node keeps; what one that runs has; what a message says -/
structure DI (g : GH) (i : Nat) (T vt : Int) (l : List RE) : Prop where
  lm : LM g l
  mono : Mono l
  ter : Ter l T
  kp : Kp g i T l
  futV : ∀ t, T < t → g.V i t = -1
  futC : ∀ t, T < t → g.cl t i = none
  futA : ∀ t, T < t → g.ack i t = 0
  futL : ∀ t, T < t → g.ll t ≠ [] → g.ld t ≠ i
  vot : g.V i T = -1 ∨ g.V i T = vt
  t0 : 0 ≤ T
structure Cand (k : Nat) (g : GH) (i : Nat) (X : RN) : Prop where
  vote : X.vote = i
  cl : g.cl X.term i = some X.log
  ter : Ter X.log (X.term - 1)
  no : g.ll X.term ≠ [] → g.ld X.term ≠ i
  vs : ∀ v, X.votes.testBit v = true → v < k ∧ g.V v X.term = i ∧ (g.ll X.term = [] → Rec g X.term i v)
  t1 : 1 ≤ X.term
structure Lead (k : Nat) (g : GH) (i : Nat) (X : RN) : Prop where
  ll : g.ll X.term = X.log
  ne : X.log ≠ []
  ld : g.ld X.term = i
  mt : ∀ v, v < k → v ≠ i → 0 ≤ X.matc v ∧ X.matc v ≤ g.ack v X.term
  me : X.log.length ≤ g.ack i X.term
  nx : ∀ v, v < k → v ≠ i → 1 ≤ X.next v ∧ X.next v ≤ X.log.length + 1
structure NI (k : Nat) (g : GH) (i : Nat) (X : RN) : Prop where
  d : DI g i X.term X.vote X.log
  v : g.V i X.term = X.vote
  id : X.id = i
  n : X.n = k
  ik : i < k
  k7 : k ≤ 7
  v0 : -1 ≤ X.vote
  vb : X.votes < 128
  c0 : 0 ≤ X.commit
  c1 : X.commit ≤ X.log.length
  com : Cm k g X.term (X.log.take X.commit.toNat)
  cand : X.role = 2 → Cand k g i X
  lead : X.role = 3 → Lead k g i X
def MI (k : Nat) (g : GH) (m : RM) : Prop :=
  (m.kind = 3 → ∃ lc, g.cl m.term m.from_ = some lc ∧ m.logTerm = lastT lc ∧ m.index = lc.length) ∧
  (m.kind = 4 → m.yes = true → 0 ≤ m.from_ ∧ m.from_ < k ∧ 0 ≤ m.to ∧ g.V m.from_.toNat m.term = m.to ∧ (g.ll m.term = [] → Rec g m.term m.to m.from_.toNat)) ∧
  (m.kind = 5 → g.ll m.term ≠ [] ∧ g.ld m.term = m.from_ ∧ 0 ≤ m.index ∧ m.index ≤ (g.ll m.term).length ∧ m.logTerm = (termAt (g.ll m.term) m.index).1 ∧ m.ents <+: (g.ll m.term).drop m.index.toNat ∧ m.commit ≤ (g.ll m.term).length ∧ Cm k g m.term ((g.ll m.term).take m.commit.toNat)) ∧
  (m.kind = 6 → m.yes = true → m.index ≤ g.ack m.from_.toNat m.term)
section
variable {k : Nat} {g g' : GH} {t u T vt : Int} {j v i : Nat} {l : List RE} {X Y : RN} {m : RM}
theorem termAt_pre {p q : List RE} (h : p <+: q) {i : Int} (h0 : 0 ≤ i) (h1 : i ≤ p.length) : termAt q i = termAt p i := by
  have := pre_len h
  unfold termAt
  rw [if_neg (show ¬ (i < 0 ∨ i > q.length) by omega), if_neg (show ¬ (i < 0 ∨ i > p.length) by omega)]
  by_cases e : i = 0
  · rw [if_pos e, if_pos e]
  · rw [if_neg e, if_neg e, get_of_pre h (by omega)]
theorem drop_pre {p q : List RE} (h : p <+: q) (n : Nat) : p.drop n <+: q.drop n := by
  obtain ⟨r, rfl⟩ := h
  rw [List.drop_append]
  exact List.prefix_append _ _
theorem MI.grow (I : GI k g) (G : GLe g g') (h : MI k g m) : MI k g' m := by
  obtain ⟨h3, h4, h5, h6⟩ := h
  refine ⟨fun e => ?_, fun e y => ?_, fun e => ?_, fun e y => Int.le_trans (h6 e y) (Int.ofNat_le.2 (G.ack _ _))⟩
  · obtain ⟨lc, a, b⟩ := h3 e
    exact ⟨lc, G.cl _ _ _ a, b⟩
  · obtain ⟨a, b, c, d, f⟩ := h4 e y
    have hn : g.V m.from_.toNat m.term ≠ -1 := by rw [d]; omega
    refine ⟨a, b, c, ?_, fun he => (f ?_).grow I G hn⟩
    · rcases G.V m.from_.toNat m.term with x | x
      · exact absurd x hn
      · rw [x]; exact d
    · exact Decidable.byContradiction fun x => pre_nil (G.ll m.term) x he
  · obtain ⟨a, b, c, d, f, q, n, r⟩ := h5 e
    have hl := pre_len (G.ll m.term)
    exact ⟨pre_nil (G.ll _) a, by rw [G.ld _ a]; exact b, c, by omega, by rw [termAt_pre (G.ll _) c d]; exact f, q.trans (drop_pre (G.ll _) _), by omega, by rw [take_ll G (by omega)]; exact r.grow G⟩
theorem NI.like (h : NI k g i X) (h1 : Y.term = X.term) (h2 : Y.vote = X.vote) (h3 : Y.log = X.log) (h4 : Y.id = X.id) (h5 : Y.n = X.n) (h6 : Y.commit = X.commit) (h7 : Y.role = X.role ∨ (Y.role ≠ 2 ∧ Y.role ≠ 3)) (h8 : Y.votes = X.votes) (h9 : Y.matc = X.matc) (h10 : Y.next = X.next) : NI k g i Y := by
  refine ⟨by rw [h1, h2, h3]; exact h.d, by rw [h1, h2]; exact h.v, by rw [h4]; exact h.id, by rw [h5]; exact h.n, h.ik, h.k7, by rw [h2]; exact h.v0, by rw [h8]; exact h.vb, by rw [h6]; exact h.c0, by rw [h6, h3]; exact h.c1, by rw [h1, h3, h6]; exact h.com, fun e => ?_, fun e => ?_⟩
  · rcases h7 with h7 | h7
    · have c := h.cand (h7 ▸ e)
      exact ⟨by rw [h2]; exact c.vote, by rw [h1, h3]; exact c.cl, by rw [h1, h3]; exact c.ter, by rw [h1]; exact c.no, by rw [h1, h8]; exact c.vs, by rw [h1]; exact c.t1⟩
    · exact absurd e h7.1
  · rcases h7 with h7 | h7
    · have c := h.lead (h7 ▸ e)
      exact ⟨by rw [h1, h3]; exact c.ll, by rw [h3]; exact c.ne, by rw [h1]; exact c.ld, by rw [h1, h9]; exact c.mt, by rw [h1, h3]; exact c.me, by rw [h3, h10]; exact c.nx⟩
    · exact absurd e h7.2
theorem DI.other (I : GI k g) (G : GBy i g g') (hj : j ≠ i) (h : DI g j T vt l) : DI g' j T vt l := by
  refine ⟨h.lm.grow G.toGLe, h.mono, h.ter, h.kp.grow I G.toGLe (fun t => by rw [G.oA j hj]), fun t ht => by rw [G.oV j hj]; exact h.futV t ht, fun t ht => by rw [G.oC t j hj]; exact h.futC t ht, fun t ht => by rw [G.oA j hj]; exact h.futA t ht, fun t ht hne => ?_, by rw [G.oV j hj]; exact h.vot, h.t0⟩
  rcases G.oL t with ⟨a, b⟩ | a
  · rw [b]; rw [a] at hne; exact h.futL t ht hne
  · rw [a]; omega
theorem NI.other (I : GI k g) (G : GBy i g g') (hj : j ≠ i) (h : NI k g j X) : NI k g' j X := by
  refine ⟨h.d.other I G hj, by rw [G.oV j hj]; exact h.v, h.id, h.n, h.ik, h.k7, h.v0, h.vb, h.c0, h.c1, h.com.grow G.toGLe, fun e => ?_, fun e => ?_⟩
  · have c := h.cand e
    refine ⟨c.vote, by rw [G.oC _ j hj]; exact c.cl, c.ter, fun hne => ?_, fun v hv => ?_, c.t1⟩
    · rcases G.oL X.term with ⟨a, b⟩ | a
      · rw [b]; rw [a] at hne; exact c.no hne
      · rw [a]; omega
    · obtain ⟨a, b, d⟩ := c.vs v hv
      have hn : g.V v X.term ≠ -1 := by rw [b]; omega
      refine ⟨a, ?_, fun he => (d ?_).grow I G.toGLe hn⟩
      · rcases G.V v X.term with x | x
        · exact absurd x hn
        · rw [x]; exact b
      · exact Decidable.byContradiction fun x => pre_nil (G.ll X.term) x he
  · have c := h.lead e
    have hl : g'.ll X.term = g.ll X.term := by
      rcases G.oL X.term with ⟨a, _⟩ | a
      · exact a
      · rw [G.ld X.term (by rw [c.ll]; exact c.ne), c.ld] at a; omega
    refine ⟨by rw [hl]; exact c.ll, c.ne, by rw [G.ld X.term (by rw [c.ll]; exact c.ne)]; exact c.ld, fun v h1 h2 => ?_, by rw [G.oA j hj]; exact c.me, c.nx⟩
    have := c.mt v h1 h2
    have := G.ack v X.term
    omega
end
end Go.Proofs.YtniojdaddolnfaaGreat

/-
  Layer 10 (group), plain: what becomes known by a vote, a candidate, a leader's log, an acknowledgement; a node's doings keep what always holds.
-/
namespace Go.Proofs.YtniojdaddolnfaaGreat

/-! ## What becomes known -/
def GH.setV (g : GH) (i : Nat) (T c : Int) : GH := { g with V := fun v t => if v = i ∧ t = T then c else g.V v t }
def GH.setC (g : GH) (i : Nat) (T : Int) (l : List RE) : GH := { g with cl := fun t c => if t = T ∧ c = i then some l else g.cl t c }
def GH.setL (g : GH) (i : Nat) (T : Int) (l : List RE) : GH := { g with ll := fun t => if t = T then l else g.ll t, ld := fun t => if t = T then (i : Int) else g.ld t }
def GH.setA (g : GH) (i : Nat) (T : Int) (n : Nat) : GH := { g with ack := fun v t => if v = i ∧ t = T then max (g.ack v t) n else g.ack v t }
section
variable {k : Nat} {g : GH} {T c : Int} {i n : Nat} {l : List RE}
theorem setV_by (h : g.V i T = -1 ∨ g.V i T = c) : GBy i g (g.setV i T c) := by
  refine ⟨⟨fun v t => ?_, fun _ => List.prefix_refl _, fun _ _ => rfl, fun _ _ => Nat.le_refl _, fun _ _ _ _ _ => rfl, fun _ _ _ x => x⟩, fun v hv => ?_, fun _ _ => rfl, fun _ _ _ => rfl, fun _ => .inl ⟨rfl, rfl⟩⟩
  · show _ ∨ (if v = i ∧ t = T then c else g.V v t) = _
    by_cases e : v = i ∧ t = T
    · rw [if_pos e, e.1, e.2]
      exact h.imp id Eq.symm
    · rw [if_neg e]; exact .inr rfl
  · funext t
    show (if v = i ∧ t = T then c else g.V v t) = _
    rw [if_neg fun x => hv x.1]
theorem setC_by (h : g.cl T i = none ∨ g.cl T i = some l) : GBy i g (g.setC i T l) := by
  refine ⟨⟨fun _ _ => .inr rfl, fun _ => List.prefix_refl _, fun _ _ => rfl, fun _ _ => Nat.le_refl _, fun _ _ _ _ _ => rfl, fun t c l' hl => ?_⟩, fun _ _ => rfl, fun _ _ => rfl, fun t v hv => ?_, fun _ => .inl ⟨rfl, rfl⟩⟩
  · show (if t = T ∧ c = i then some l else g.cl t c) = _
    by_cases e : t = T ∧ c = i
    · rw [if_pos e]
      rw [e.1, e.2] at hl
      rcases h with h | h
      · rw [h] at hl; cases hl
      · rw [← h]; exact hl
    · rw [if_neg e]; exact hl
  · show (if t = T ∧ (v : Int) = i then some l else g.cl t v) = _
    rw [if_neg fun x => hv (by omega)]
theorem setL_by (h : g.ll T <+: l) (hd : g.ll T ≠ [] → g.ld T = i) : GBy i g (g.setL i T l) := by
  refine ⟨⟨fun _ _ => .inr rfl, fun t => ?_, fun t ht => ?_, fun _ _ => Nat.le_refl _, fun _ _ _ _ _ => rfl, fun _ _ _ x => x⟩, fun _ _ => rfl, fun _ _ => rfl, fun _ _ _ => rfl, fun t => ?_⟩
  · show _ <+: if t = T then l else g.ll t
    by_cases e : t = T
    · rw [if_pos e, e]; exact h
    · rw [if_neg e]; exact List.prefix_refl _
  · show (if t = T then (i : Int) else g.ld t) = _
    by_cases e : t = T
    · rw [if_pos e, e]; rw [e] at ht; exact (hd ht).symm
    · rw [if_neg e]
  · show ((if t = T then l else g.ll t) = _ ∧ (if t = T then (i : Int) else g.ld t) = _) ∨ (if t = T then (i : Int) else g.ld t) = i
    by_cases e : t = T
    · rw [if_pos e]; exact .inr (by rw [if_pos e])
    · rw [if_neg e, if_neg e]; exact .inl ⟨rfl, rfl⟩
theorem setA_by (h : ∀ u, T < u → g.V i u = -1) : GBy i g (g.setA i T n) := by
  refine ⟨⟨fun _ _ => .inr rfl, fun _ => List.prefix_refl _, fun _ _ => rfl, fun v t => ?_, fun v t u hu htu => ?_, fun _ _ _ x => x⟩, fun _ _ => rfl, fun v hv => ?_, fun _ _ _ => rfl, fun _ => .inl ⟨rfl, rfl⟩⟩
  · show _ ≤ if v = i ∧ t = T then max (g.ack v t) n else g.ack v t
    split <;> omega
  · show (if v = i ∧ t = T then max (g.ack v t) n else g.ack v t) = _
    rw [if_neg fun e => hu (by rw [e.1]; exact h u (by omega))]
  · funext t
    show (if v = i ∧ t = T then max (g.ack v t) n else g.ack v t) = _
    rw [if_neg fun x => hv x.1]
theorem setV_gi (I : GI k g) (h : g.V i T = -1 ∨ g.V i T = c) : GI k (g.setV i T c) := ⟨fun t ht => (I.L t ht).grow I (setV_by h).toGLe rfl rfl, I.A⟩
theorem setC_gi (I : GI k g) (h : g.cl T i = none ∨ g.cl T i = some l) : GI k (g.setC i T l) := ⟨fun t ht => (I.L t ht).grow I (setC_by h).toGLe rfl rfl, I.A⟩
theorem setA_gi (I : GI k g) (h : ∀ u, T < u → g.V i u = -1) (hn : n ≤ (g.ll T).length) : GI k (g.setA i T n) :=
  ⟨fun t ht => (I.L t ht).grow I (setA_by h).toGLe rfl rfl, fun v t => by
    show (if v = i ∧ t = T then max (g.ack v t) n else g.ack v t) ≤ (g.ll t).length
    have := I.A v t
    split
    · rename_i e; rw [e.2] at this ⊢; omega
    · exact this⟩
theorem setL_ll (g : GH) (i : Nat) (T : Int) (l : List RE) : (g.setL i T l).ll T = l := if_pos rfl
theorem setL_ld (g : GH) (i : Nat) (T : Int) (l : List RE) : (g.setL i T l).ld T = i := if_pos rfl
/-- An entry more behind a leader's log, or behind the log with which it was a candidate. -/
theorem setL_lm (I : GI k g) {e : RE} (h : LM g l) (hp : g.ll T <+: l ++ [e]) (hd : g.ll T ≠ [] → g.ld T = i) (he : e.term = T) : LM (g.setL i T (l ++ [e])) (l ++ [e]) := fun j hj => by
  rw [List.length_append, List.length_singleton] at hj
  by_cases hl : j < l.length
  · rw [List.getElem_append_left hl, List.take_append_of_le_length (by omega)]
    exact (h.grow (setL_by hp hd).toGLe) j hl
  · have : j = l.length := by omega
    subst this
    rw [List.getElem_append_right (by omega)]
    simp only [Nat.sub_self, List.getElem_cons_zero]
    rw [he, setL_ll]
    exact take_pre _ _
theorem mono_snoc {e : RE} (h : Mono l) (ht : Ter l T) (he : e.term = T) : Mono (l ++ [e]) := by
  refine List.pairwise_append.2 ⟨h, List.pairwise_singleton .., fun a ha b hb => ?_⟩
  rw [List.mem_singleton.1 hb, he]
  exact (ht a ha).2
theorem ter_snoc {e : RE} (ht : Ter l T) (he : e.term = T) (h1 : 1 ≤ T) : Ter (l ++ [e]) T := fun x hx => by
  rcases List.mem_append.1 hx with hx | hx
  · exact ht x hx
  · rw [List.mem_singleton.1 hx, he]; omega
/-- A candidate that a majority votes for leads. -/
theorem setL_new (I : GI k g) {e : RE} (h0 : g.ll T = []) (hi : i < k) (hc : g.cl T i = some l) (hlm : LM g l) (hm : Mono l) (ht : Ter l (T - 1)) (h1 : 1 ≤ T) (he : e.term = T) (hq : Maj k fun v => g.V v T = i ∧ Rec g T i v) : GI k (g.setL i T (l ++ [e])) := by
  have hp : g.ll T <+: l ++ [e] := by rw [h0]; exact List.nil_prefix
  have hd : g.ll T ≠ [] → g.ld T = i := fun x => absurd h0 x
  have G := (setL_by hp hd).toGLe
  refine ⟨fun t htne => ?_, fun v t => Nat.le_trans (I.A v t) (pre_len (G.ll t))⟩
  by_cases e1 : t = T
  · subst e1
    refine ⟨by rw [setL_ll]; exact setL_lm I hlm hp hd he, by rw [setL_ll]; exact mono_snoc hm (ht.up (by omega)) he, by rw [setL_ll]; exact ter_snoc (ht.up (by omega)) he h1, h1, by rw [setL_ld]; omega, ?_, ?_⟩
    · rw [setL_ll, setL_ld]
      refine ⟨l, e, hc, he, List.prefix_refl _, ht, fun x hx => ?_⟩
      rw [List.drop_left] at hx
      rw [List.mem_singleton.1 hx]; exact he
    · rw [setL_ld]
      exact hq.mono fun v _ hv => ⟨hv.1, hv.2.grow I G (by rw [hv.1]; omega)⟩
  · have e2 : (g.setL i T (l ++ [e])).ll t = g.ll t := if_neg e1
    rw [e2] at htne
    exact (I.L t htne).grow I G e2 (if_neg e1)
/-- A leader adds an entry. -/
theorem setL_add (I : GI k g) {e : RE} (h0 : g.ll T = l) (hne : l ≠ []) (hd : g.ld T = i) (he : e.term = T) : GI k (g.setL i T (l ++ [e])) := by
  have hp : g.ll T <+: l ++ [e] := by rw [h0]; exact List.prefix_append _ _
  have hd' : g.ll T ≠ [] → g.ld T = i := fun _ => hd
  have G := (setL_by hp hd').toGLe
  refine ⟨fun t htne => ?_, fun v t => Nat.le_trans (I.A v t) (pre_len (G.ll t))⟩
  by_cases e1 : t = T
  · subst e1
    have L := I.L t (by rw [h0]; exact hne)
    have hlm := L.lm
    have hm := L.mono
    have ht := L.ter
    rw [h0] at hlm hm ht
    refine ⟨by rw [setL_ll]; exact setL_lm I hlm hp hd' he, by rw [setL_ll]; exact mono_snoc hm ht he, by rw [setL_ll]; exact ter_snoc ht he L.t1, L.t1, by rw [setL_ld, ← hd]; exact L.who, ?_, ?_⟩
    · rw [setL_ll, setL_ld]
      obtain ⟨b, e0, h2, h3, h4, h5, h6⟩ := L.base
      rw [h0] at h4 h6
      refine ⟨b, e0, by rw [← hd]; exact h2, h3, h4.trans (List.prefix_append _ _), h5, fun x hx => ?_⟩
      have hb := pre_len h4
      rw [List.length_append, List.length_singleton] at hb
      rw [List.drop_append_of_le_length (by omega)] at hx
      rcases List.mem_append.1 hx with hx | hx
      · exact h6 x hx
      · rw [List.mem_singleton.1 hx]; exact he
    · rw [setL_ld, ← hd]
      have hw := L.who
      exact L.maj.mono fun v _ hv => ⟨hv.1, hv.2.grow I G (by rw [hv.1]; omega)⟩
  · have e2 : (g.setL i T (l ++ [e])).ll t = g.ll t := if_neg e1
    rw [e2] at htne
    exact (I.L t htne).grow I G e2 (if_neg e1)
end
/-! ## Bits as majorities -/
def bitsQ (v n : Nat) : Nat := (List.range n).countP fun (t : Nat) => v.testBit t
theorem popT_bitsQ : ∀ x : Fin 128, popT 7 x.val = bitsQ x.val 7 := by decide +kernel
theorem countP_le {q : Nat → Bool} {n : Nat} : ∀ m, n ≤ m → (∀ t, t < m → q t = true → t < n) → (List.range m).countP q = (List.range n).countP q
  | 0, h, _ => by rw [show n = 0 by omega]
  | m + 1, h, hq => by
    by_cases e : n = m + 1
    · rw [e]
    · rw [List.range_succ, List.countP_append, countP_le m (by omega) (fun t ht h2 => hq t (by omega) h2), List.countP_singleton, if_neg fun x => by have := hq m (by omega) x; omega]
      rfl
theorem maj_bits {X : RN} {v k : Nat} {Q : Nat → Prop} (hm : mostB X v) (hn : X.n = k) (hk : k ≤ 7) (hv : v < 128) (hq : ∀ t, v.testBit t = true → t < k ∧ Q t) : Maj k Q := by
  refine ⟨fun t => v.testBit t, fun t ht => hq t ht, ?_⟩
  have e := popT_bitsQ ⟨v, hv⟩
  simp only at e
  unfold mostB at hm
  rw [e] at hm
  unfold bitsQ at hm
  rw [countP_le (n := k) 7 hk (fun t _ ht => (hq t ht).1), hn] at hm
  show k < 2 * (List.range k).countP fun t => v.testBit t
  have hm : 2 * (((List.range k).countP fun t => v.testBit t : Nat) : Int) > (k : Int) := hm
  omega
theorem filter_countP (q : Nat → Bool) (l : List Nat) : (l.filter q).length = l.countP q := (List.countP_eq_length_filter).symm
theorem maj_cnt {X : RN} {k : Nat} {i : Int} (hm : 2 * (cntG X i : Int) > X.n) (hn : X.n = k) : Maj k fun t => (t : Int) = X.id ∨ X.matc t ≥ i := by
  refine ⟨fun (t : Nat) => decide (t < k) && decide ((t : Int) = X.id ∨ X.matc t ≥ i), fun t ht => ?_, ?_⟩
  · rw [Bool.and_eq_true, decide_eq_true_iff, decide_eq_true_iff] at ht; exact ht
  · unfold cntG at hm
    rw [filter_countP, hn, Int.toNat_natCast] at hm
    have : (List.range k).countP (fun (t : Nat) => decide (t < k) && decide ((t : Int) = X.id ∨ X.matc t ≥ i)) = (List.range k).countP (fun (t : Nat) => decide ((t : Int) = X.id ∨ X.matc t ≥ i)) := by
      refine List.countP_congr fun t ht => ?_
      rw [Bool.and_eq_true, decide_eq_true_iff]
      exact ⟨fun x => x.2, fun x => ⟨List.mem_range.1 ht, x⟩⟩
    rw [this]
    omega
end Go.Proofs.YtniojdaddolnfaaGreat
