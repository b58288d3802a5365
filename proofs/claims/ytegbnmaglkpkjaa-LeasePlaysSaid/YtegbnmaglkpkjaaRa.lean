/-
  Words for contracts: what is kept of a heap, slices that are read, slices that may be written, and what each primitive asks, as rules to be applied.
-/
import Derived.Test.YtegbnmaglkpkjaaVf
import Derived.Deep.AppendSrc
import Derived.Deep.Upon
import Derived.Laws.BytesString
import Derived.Laws.Slices
import Derived.Below
namespace Go.Proofs.Ytegbnmaglkpkjaa
open Go

/-! ## What is kept -/
/-- Blocks outside F that were there are as they were. -/
structure Upd (F : Nat → Prop) (h h' : Heap) : Prop where
  size : h.size ≤ h'.size
  keep : ∀ k, k < h.size → ¬ F k → h'[k]? = h[k]?
theorem Upd.refl (F : Nat → Prop) (h : Heap) : Upd F h h := ⟨Nat.le_refl _, fun _ _ _ => rfl⟩
theorem Upd.trans {F G H : Nat → Prop} {a b c : Heap} (h1 : Upd F a b) (h2 : Upd G b c) (hf : ∀ k, k < a.size → F k → H k) (hg : ∀ k, k < a.size → G k → H k) : Upd H a c :=
  ⟨Nat.le_trans h1.size h2.size, fun k hk hn => by
    rw [h2.keep k (Nat.lt_of_lt_of_le hk h1.size) fun x => hn (hg k hk x), h1.keep k hk fun x => hn (hf k hk x)]⟩
theorem Upd.mono {F G : Nat → Prop} {a b : Heap} (h : Upd F a b) (hf : ∀ k, k < a.size → F k → G k) : Upd G a b := ⟨h.size, fun k hk hn => h.keep k hk fun x => hn (hf k hk x)⟩
/-- Nothing below B is turned. -/
def Ext (B : Nat) (h h' : Heap) : Prop := h.size ≤ h'.size ∧ ∀ k, k < B → h'[k]? = h[k]?
theorem Ext.refl (B : Nat) (h : Heap) : Ext B h h := ⟨Nat.le_refl _, fun _ _ => rfl⟩
theorem Ext.trans {B : Nat} {a b c : Heap} (h1 : Ext B a b) (h2 : Ext B b c) : Ext B a c := ⟨Nat.le_trans h1.1 h2.1, fun k hk => (h2.2 k hk).trans (h1.2 k hk)⟩
theorem Ext.mono {B B' : Nat} {a b : Heap} (h : Ext B a b) (hB : B' ≤ B) : Ext B' a b := ⟨h.1, fun k hk => h.2 k (Nat.lt_of_lt_of_le hk hB)⟩
theorem Upd.ext {F : Nat → Prop} {a b : Heap} {B : Nat} (h : Upd F a b) (hB : B ≤ a.size) (hf : ∀ k, k < B → ¬ F k) : Ext B a b := ⟨h.size, fun k hk => h.keep k (Nat.lt_of_lt_of_le hk hB) (hf k hk)⟩
theorem Ext.upd {a b : Heap} (h : Ext a.size a b) (F : Nat → Prop) : Upd F a b := ⟨h.1, fun k hk _ => h.2 k hk⟩
theorem ext_push (h : Heap) (o : Obj) {B : Nat} (hB : B ≤ h.size) : Ext B h (h.push o) := ⟨by simp, fun k hk => by rw [Array.getElem?_push, if_neg (by omega)]⟩
theorem setH_get (h : Heap) (a : Addr) (v : Value) {k : Nat} (hk : k ≠ a.block) : (setH h a v)[k]? = h[k]? := by
  show (((mkW h).setCell a v).heap)[k]? = h[k]?
  simp only [World.setCell, Array.getElem?_modify]
  rw [if_neg (fun e => hk e.symm)]
  rfl
theorem setH_size (h : Heap) (a : Addr) (v : Value) : (setH h a v).size = h.size := by
  show (((mkW h).setCell a v).heap).size = h.size
  simp [World.setCell, mkW]
theorem cellH_eq {h h' : Heap} {a : Addr} (e : h'[a.block]? = h[a.block]?) : cellH h' a = cellH h a := by
  show (mkW h').cell? a = (mkW h).cell? a
  simp [World.cell?, mkW, e]
theorem frozenH_eq {h h' : Heap} {a : Addr} (e : h'[a.block]? = h[a.block]?) : frozenH h' a = frozenH h a := by
  show (mkW h').frozen? a = (mkW h).frozen? a
  simp [World.frozen?, mkW, e]
theorem lt_of_cell {h : Heap} {a : Addr} {v : Value} (hc : cellH h a = some v) : a.block < h.size := by
  rcases Nat.lt_or_ge a.block h.size with h1 | h1
  · exact h1
  · have e : h[a.block]? = none := Array.getElem?_eq_none h1
    have : cellH h a = none := by show (mkW h).cell? a = none; simp [World.cell?, mkW, e]
    rw [this] at hc; cases hc

theorem Upd.ext1 {a b : Heap} {p B : Nat} (h : Upd (· = p) a b) (hp : B ≤ p) (hB : B ≤ a.size) : Ext B a b := h.ext hB fun k hk e => by omega

/-! ## Blocks that are known whole -/
/-- Block b is these cells, none of them frozen. -/
def Blk (h : Heap) (b : Nat) (t : TypeId) (cs : List Value) : Prop := ∃ fz, h[b]? = some (.cells cs.toArray t fz) ∧ (fz = (0, 0) ∨ fz = (cs.length, cs.length + 1))
theorem Blk.lt {h : Heap} {b : Nat} {t : TypeId} {cs : List Value} (hb : Blk h b t cs) : b < h.size := by
  obtain ⟨fz, e, _⟩ := hb
  exact (Array.getElem?_eq_some_iff.1 e).1
theorem Blk.cell {h : Heap} {b : Nat} {t : TypeId} {cs : List Value} (hb : Blk h b t cs) (i : Nat) : cellH h ⟨b, i, none⟩ = cs[i]? := by
  obtain ⟨fz, e, _⟩ := hb
  show (mkW h).cell? ⟨b, i, none⟩ = cs[i]?
  have : (mkW h).heap[b]? = some (.cells cs.toArray t fz) := e
  simp [World.cell?, this]
theorem Blk.free {h : Heap} {b : Nat} {t : TypeId} {cs : List Value} (hb : Blk h b t cs) {i : Nat} (hi : i < cs.length) : frozenH h ⟨b, i, none⟩ = false := by
  obtain ⟨fz, e, hf⟩ := hb
  show (mkW h).frozen? ⟨b, i, none⟩ = false
  have : (mkW h).heap[b]? = some (.cells cs.toArray t fz) := e
  rcases hf with rfl | rfl
  · simp [World.frozen?, this]
  · simp only [World.frozen?, this]
    have : decide (cs.length ≤ i) = false := by simp; omega
    simp [this]
theorem Blk.eq {h h' : Heap} {b : Nat} {t : TypeId} {cs : List Value} (hb : Blk h b t cs) (e : h'[b]? = h[b]?) : Blk h' b t cs := by
  obtain ⟨fz, e1, hf⟩ := hb
  exact ⟨fz, e.trans e1, hf⟩
theorem Blk.upd {F : Nat → Prop} {h h' : Heap} {b : Nat} {t : TypeId} {cs : List Value} (hb : Blk h b t cs) (hu : Upd F h h') (hn : ¬ F b) : Blk h' b t cs := hb.eq (hu.keep b hb.lt hn)
theorem Blk.new (h : Heap) (t : TypeId) (cs : List Value) : Blk (h.push (.cells cs.toArray t)) h.size t cs := ⟨(0, 0), by simp, .inl rfl⟩
theorem Blk.set {h : Heap} {b : Nat} {t : TypeId} {cs : List Value} (hb : Blk h b t cs) (i : Nat) (v : Value) : Blk (setH h ⟨b, i, none⟩ v) b t (cs.set i v) := by
  obtain ⟨fz, e, hf⟩ := hb
  refine ⟨fz, ?_, by simpa using hf⟩
  show (((mkW h).setCell ⟨b, i, none⟩ v).heap)[b]? = _
  have : (mkW h).heap[b]? = some (.cells cs.toArray t fz) := e
  simp [World.setCell, Array.getElem?_modify, this]
theorem Blk.far {h : Heap} {b : Nat} {t : TypeId} {cs : List Value} (hb : Blk h b t cs) {a : Addr} (hn : b ≠ a.block) (v : Value) : Blk (setH h a v) b t cs := hb.eq (setH_get h a v hn)
theorem upd_set (h : Heap) (a : Addr) (v : Value) : Upd (· = a.block) h (setH h a v) := ⟨by rw [setH_size]; exact Nat.le_refl _, fun k _ hn => setH_get h a v hn⟩

/-! ## Primitives, as rules -/
theorem nn {a : Addr} {K : Addr → Prop} (h : K a) : Nn (some a) K := ⟨a, rfl, h⟩
theorem ld {k : Kd} {h : Heap} {a : Addr} {K : k.T → Prop} (x : k.T) (hc : cellH h a = some (k.mk x)) (hk : K x) : Ld k h a K := ⟨x, hc, hk⟩
theorem ldB {k : Kd} {h : Heap} {b i : Nat} {t : TypeId} {cs : List Value} {K : k.T → Prop} (hb : Blk h b t cs) (x : k.T) (hc : cs[i]? = some (k.mk x)) (hk : K x) : Ld k h ⟨b, i, none⟩ K := ⟨x, (hb.cell i).trans hc, hk⟩
theorem stB {h : Heap} {b i : Nat} {t : TypeId} {cs : List Value} {v : Value} {K : Heap → Prop} (hb : Blk h b t cs) (hi : i < cs.length) (hk : ∀ h', Blk h' b t (cs.set i v) → Upd (· = b) h h' → h'.size = h.size → K h') :
    St h ⟨b, i, none⟩ v K :=
  ⟨by rw [hb.cell, List.getElem?_eq_getElem hi]; rfl, hb.free hi, hk _ (hb.set i v) (upd_set h ⟨b, i, none⟩ v) (setH_size h _ v)⟩
theorem add0 (g o n : Nat) : (⟨g, o, none⟩ : Addr).add n = ⟨g, o + n, none⟩ := by
  unfold Addr.add; split
  · rename_i e; rw [e]; rfl
  · rfl
theorem ldF {k : Kd} {h : Heap} {b i : Nat} {t : TypeId} {cs : List Value} {K : k.T → Prop} (hb : Blk h b t cs) (x : k.T) (hc : cs[i]? = some (k.mk x)) (hk : K x) : Ld k h ((⟨b, 0, none⟩ : Addr).add i) K := by
  rw [add0, Nat.zero_add]; exact ldB hb x hc hk
theorem stF {h : Heap} {b i : Nat} {t : TypeId} {cs : List Value} {v : Value} {K : Heap → Prop} (hb : Blk h b t cs) (hi : i < cs.length) (hk : ∀ h', Blk h' b t (cs.set i v) → Upd (· = b) h h' → h'.size = h.size → K h') :
    St h ((⟨b, 0, none⟩ : Addr).add i) v K := by
  rw [add0, Nat.zero_add]; exact stB hb hi hk
theorem alloc {h : Heap} {t : TypeId} {cs : List Value} {K : Addr → Heap → Prop} (hk : ∀ h', Blk h' h.size t cs → Ext h.size h h' → h'.size = h.size + 1 → K ⟨h.size, 0, none⟩ h') : Alloc h (.cells cs.toArray t) K :=
  hk _ (Blk.new h t cs) (ext_push h _ (Nat.le_refl _)) (by simp)
theorem let_ {α : Type} {x : α} {K : α → Prop} (h : K x) : Let x K := h
theorem br {p : Prop} {b : Bool} {A B : Prop} (hb : b = true ↔ p) (h1 : p → A) (h2 : ¬ p → B) : cond b A B := by
  cases b with
  | true => exact h1 (hb.1 rfl)
  | false => exact h2 fun x => by have := hb.2 x; cases this
theorem brY {b : Bool} {A B : Prop} (hb : b = true) (h : A) : cond b A B := by subst hb; exact h
theorem brN {b : Bool} {A B : Prop} (hb : b = false) (h : B) : cond b A B := by subst hb; exact h
theorem brT {A B : Prop} (h : A) : cond true A B := h
theorem brF {A B : Prop} (h : B) : cond false A B := h
theorem brB {b : Bool} {A B : Prop} (h1 : b = true → A) (h2 : b = false → B) : cond b A B := by
  cases b with
  | true => exact h1 rfl
  | false => exact h2 rfl
theorem brD {p : Prop} [Decidable p] {A B : Prop} (h1 : p → A) (h2 : ¬ p → B) : cond (decide p) A B := br decide_eq_true_iff h1 h2
theorem nz {b : Int} {K : Prop} (h : b ≠ 0) (hk : K) : Nz b K := ⟨h, hk⟩
theorem nneg {b : Int} {K : Prop} (h : 0 ≤ b) (hk : K) : Nneg b K := ⟨h, hk⟩
theorem cat {s t : ByteArray} {K : ByteArray → Prop} (h : s.size + t.size ≤ 9223372036854775807) (hk : K (s ++ t)) : Cat s t K := ⟨h, hk⟩
theorem w64 {n : Int} (h1 : -9223372036854775808 ≤ n) (h2 : n ≤ 9223372036854775807) : IntKind.i64.wrap n = n := by
  rw [IntKind.wrap_i64]; omega

/-! ### Loops and joins, by how many slots -/
theorem join0 {rest : (Nat → Value) → Heap → Prop} {body : (Heap → Prop) → Prop} (J : Heap → Prop) (h1 : ∀ τ  h, J  h → rest τ  h) (h2 : body J) : Join [] rest body :=
  ⟨J, fun τ () h hJ => h1 τ  h hJ, h2⟩
theorem loop1 {s1 : Sh} {body : (Nat → Value) → s1.T → Heap → (s1.T → Heap → Prop) → Prop} {x1 : s1.T} {h : Heap} (I : s1.T → Heap → Prop) (μ : s1.T → Heap → Nat) (h0 : I x1 h)
    (hr : ∀ τ x1 h, I x1 h → body τ x1 h (fun y1 h' => I y1 h' ∧ μ y1 h' < μ x1 h)) : Loop [s1] body (x1, ()) h :=
  ⟨I, μ, h0, fun τ (x1, ()) h hI => hr τ x1 h hI⟩
theorem join1 {s1 : Sh} {rest : (Nat → Value) → s1.T → Heap → Prop} {body : (s1.T → Heap → Prop) → Prop} (J : s1.T → Heap → Prop) (h1 : ∀ τ x1 h, J x1 h → rest τ x1 h) (h2 : body J) : Join [s1] rest body :=
  ⟨J, fun τ (x1, ()) h hJ => h1 τ x1 h hJ, h2⟩
theorem loop2 {s1 s2 : Sh} {body : (Nat → Value) → s1.T → s2.T → Heap → (s1.T → s2.T → Heap → Prop) → Prop} {x1 : s1.T} {x2 : s2.T} {h : Heap} (I : s1.T → s2.T → Heap → Prop) (μ : s1.T → s2.T → Heap → Nat) (h0 : I x1 x2 h)
    (hr : ∀ τ x1 x2 h, I x1 x2 h → body τ x1 x2 h (fun y1 y2 h' => I y1 y2 h' ∧ μ y1 y2 h' < μ x1 x2 h)) : Loop [s1, s2] body (x1, x2, ()) h :=
  ⟨I, μ, h0, fun τ (x1, x2, ()) h hI => hr τ x1 x2 h hI⟩
theorem join2 {s1 s2 : Sh} {rest : (Nat → Value) → s1.T → s2.T → Heap → Prop} {body : (s1.T → s2.T → Heap → Prop) → Prop} (J : s1.T → s2.T → Heap → Prop) (h1 : ∀ τ x1 x2 h, J x1 x2 h → rest τ x1 x2 h) (h2 : body J) : Join [s1, s2] rest body :=
  ⟨J, fun τ (x1, x2, ()) h hJ => h1 τ x1 x2 h hJ, h2⟩
theorem loop3 {s1 s2 s3 : Sh} {body : (Nat → Value) → s1.T → s2.T → s3.T → Heap → (s1.T → s2.T → s3.T → Heap → Prop) → Prop} {x1 : s1.T} {x2 : s2.T} {x3 : s3.T} {h : Heap} (I : s1.T → s2.T → s3.T → Heap → Prop) (μ : s1.T → s2.T → s3.T → Heap → Nat) (h0 : I x1 x2 x3 h)
    (hr : ∀ τ x1 x2 x3 h, I x1 x2 x3 h → body τ x1 x2 x3 h (fun y1 y2 y3 h' => I y1 y2 y3 h' ∧ μ y1 y2 y3 h' < μ x1 x2 x3 h)) : Loop [s1, s2, s3] body (x1, x2, x3, ()) h :=
  ⟨I, μ, h0, fun τ (x1, x2, x3, ()) h hI => hr τ x1 x2 x3 h hI⟩
theorem join3 {s1 s2 s3 : Sh} {rest : (Nat → Value) → s1.T → s2.T → s3.T → Heap → Prop} {body : (s1.T → s2.T → s3.T → Heap → Prop) → Prop} (J : s1.T → s2.T → s3.T → Heap → Prop) (h1 : ∀ τ x1 x2 x3 h, J x1 x2 x3 h → rest τ x1 x2 x3 h) (h2 : body J) : Join [s1, s2, s3] rest body :=
  ⟨J, fun τ (x1, x2, x3, ()) h hJ => h1 τ x1 x2 x3 h hJ, h2⟩
theorem loop4 {s1 s2 s3 s4 : Sh} {body : (Nat → Value) → s1.T → s2.T → s3.T → s4.T → Heap → (s1.T → s2.T → s3.T → s4.T → Heap → Prop) → Prop} {x1 : s1.T} {x2 : s2.T} {x3 : s3.T} {x4 : s4.T} {h : Heap} (I : s1.T → s2.T → s3.T → s4.T → Heap → Prop) (μ : s1.T → s2.T → s3.T → s4.T → Heap → Nat) (h0 : I x1 x2 x3 x4 h)
    (hr : ∀ τ x1 x2 x3 x4 h, I x1 x2 x3 x4 h → body τ x1 x2 x3 x4 h (fun y1 y2 y3 y4 h' => I y1 y2 y3 y4 h' ∧ μ y1 y2 y3 y4 h' < μ x1 x2 x3 x4 h)) : Loop [s1, s2, s3, s4] body (x1, x2, x3, x4, ()) h :=
  ⟨I, μ, h0, fun τ (x1, x2, x3, x4, ()) h hI => hr τ x1 x2 x3 x4 h hI⟩
theorem join4 {s1 s2 s3 s4 : Sh} {rest : (Nat → Value) → s1.T → s2.T → s3.T → s4.T → Heap → Prop} {body : (s1.T → s2.T → s3.T → s4.T → Heap → Prop) → Prop} (J : s1.T → s2.T → s3.T → s4.T → Heap → Prop) (h1 : ∀ τ x1 x2 x3 x4 h, J x1 x2 x3 x4 h → rest τ x1 x2 x3 x4 h) (h2 : body J) : Join [s1, s2, s3, s4] rest body :=
  ⟨J, fun τ (x1, x2, x3, x4, ()) h hJ => h1 τ x1 x2 x3 x4 h hJ, h2⟩
theorem loop5 {s1 s2 s3 s4 s5 : Sh} {body : (Nat → Value) → s1.T → s2.T → s3.T → s4.T → s5.T → Heap → (s1.T → s2.T → s3.T → s4.T → s5.T → Heap → Prop) → Prop} {x1 : s1.T} {x2 : s2.T} {x3 : s3.T} {x4 : s4.T} {x5 : s5.T} {h : Heap} (I : s1.T → s2.T → s3.T → s4.T → s5.T → Heap → Prop) (μ : s1.T → s2.T → s3.T → s4.T → s5.T → Heap → Nat) (h0 : I x1 x2 x3 x4 x5 h)
    (hr : ∀ τ x1 x2 x3 x4 x5 h, I x1 x2 x3 x4 x5 h → body τ x1 x2 x3 x4 x5 h (fun y1 y2 y3 y4 y5 h' => I y1 y2 y3 y4 y5 h' ∧ μ y1 y2 y3 y4 y5 h' < μ x1 x2 x3 x4 x5 h)) : Loop [s1, s2, s3, s4, s5] body (x1, x2, x3, x4, x5, ()) h :=
  ⟨I, μ, h0, fun τ (x1, x2, x3, x4, x5, ()) h hI => hr τ x1 x2 x3 x4 x5 h hI⟩
theorem join5 {s1 s2 s3 s4 s5 : Sh} {rest : (Nat → Value) → s1.T → s2.T → s3.T → s4.T → s5.T → Heap → Prop} {body : (s1.T → s2.T → s3.T → s4.T → s5.T → Heap → Prop) → Prop} (J : s1.T → s2.T → s3.T → s4.T → s5.T → Heap → Prop) (h1 : ∀ τ x1 x2 x3 x4 x5 h, J x1 x2 x3 x4 x5 h → rest τ x1 x2 x3 x4 x5 h) (h2 : body J) : Join [s1, s2, s3, s4, s5] rest body :=
  ⟨J, fun τ (x1, x2, x3, x4, x5, ()) h hJ => h1 τ x1 x2 x3 x4 x5 h hJ, h2⟩
theorem loop6 {s1 s2 s3 s4 s5 s6 : Sh} {body : (Nat → Value) → s1.T → s2.T → s3.T → s4.T → s5.T → s6.T → Heap → (s1.T → s2.T → s3.T → s4.T → s5.T → s6.T → Heap → Prop) → Prop} {x1 : s1.T} {x2 : s2.T} {x3 : s3.T} {x4 : s4.T} {x5 : s5.T} {x6 : s6.T} {h : Heap} (I : s1.T → s2.T → s3.T → s4.T → s5.T → s6.T → Heap → Prop) (μ : s1.T → s2.T → s3.T → s4.T → s5.T → s6.T → Heap → Nat) (h0 : I x1 x2 x3 x4 x5 x6 h)
    (hr : ∀ τ x1 x2 x3 x4 x5 x6 h, I x1 x2 x3 x4 x5 x6 h → body τ x1 x2 x3 x4 x5 x6 h (fun y1 y2 y3 y4 y5 y6 h' => I y1 y2 y3 y4 y5 y6 h' ∧ μ y1 y2 y3 y4 y5 y6 h' < μ x1 x2 x3 x4 x5 x6 h)) : Loop [s1, s2, s3, s4, s5, s6] body (x1, x2, x3, x4, x5, x6, ()) h :=
  ⟨I, μ, h0, fun τ (x1, x2, x3, x4, x5, x6, ()) h hI => hr τ x1 x2 x3 x4 x5 x6 h hI⟩
theorem join6 {s1 s2 s3 s4 s5 s6 : Sh} {rest : (Nat → Value) → s1.T → s2.T → s3.T → s4.T → s5.T → s6.T → Heap → Prop} {body : (s1.T → s2.T → s3.T → s4.T → s5.T → s6.T → Heap → Prop) → Prop} (J : s1.T → s2.T → s3.T → s4.T → s5.T → s6.T → Heap → Prop) (h1 : ∀ τ x1 x2 x3 x4 x5 x6 h, J x1 x2 x3 x4 x5 x6 h → rest τ x1 x2 x3 x4 x5 x6 h) (h2 : body J) : Join [s1, s2, s3, s4, s5, s6] rest body :=
  ⟨J, fun τ (x1, x2, x3, x4, x5, x6, ()) h hJ => h1 τ x1 x2 x3 x4 x5 x6 h hJ, h2⟩
theorem loop7 {s1 s2 s3 s4 s5 s6 s7 : Sh} {body : (Nat → Value) → s1.T → s2.T → s3.T → s4.T → s5.T → s6.T → s7.T → Heap → (s1.T → s2.T → s3.T → s4.T → s5.T → s6.T → s7.T → Heap → Prop) → Prop} {x1 : s1.T} {x2 : s2.T} {x3 : s3.T} {x4 : s4.T} {x5 : s5.T} {x6 : s6.T} {x7 : s7.T} {h : Heap} (I : s1.T → s2.T → s3.T → s4.T → s5.T → s6.T → s7.T → Heap → Prop) (μ : s1.T → s2.T → s3.T → s4.T → s5.T → s6.T → s7.T → Heap → Nat) (h0 : I x1 x2 x3 x4 x5 x6 x7 h)
    (hr : ∀ τ x1 x2 x3 x4 x5 x6 x7 h, I x1 x2 x3 x4 x5 x6 x7 h → body τ x1 x2 x3 x4 x5 x6 x7 h (fun y1 y2 y3 y4 y5 y6 y7 h' => I y1 y2 y3 y4 y5 y6 y7 h' ∧ μ y1 y2 y3 y4 y5 y6 y7 h' < μ x1 x2 x3 x4 x5 x6 x7 h)) : Loop [s1, s2, s3, s4, s5, s6, s7] body (x1, x2, x3, x4, x5, x6, x7, ()) h :=
  ⟨I, μ, h0, fun τ (x1, x2, x3, x4, x5, x6, x7, ()) h hI => hr τ x1 x2 x3 x4 x5 x6 x7 h hI⟩
theorem join7 {s1 s2 s3 s4 s5 s6 s7 : Sh} {rest : (Nat → Value) → s1.T → s2.T → s3.T → s4.T → s5.T → s6.T → s7.T → Heap → Prop} {body : (s1.T → s2.T → s3.T → s4.T → s5.T → s6.T → s7.T → Heap → Prop) → Prop} (J : s1.T → s2.T → s3.T → s4.T → s5.T → s6.T → s7.T → Heap → Prop) (h1 : ∀ τ x1 x2 x3 x4 x5 x6 x7 h, J x1 x2 x3 x4 x5 x6 x7 h → rest τ x1 x2 x3 x4 x5 x6 x7 h) (h2 : body J) : Join [s1, s2, s3, s4, s5, s6, s7] rest body :=
  ⟨J, fun τ (x1, x2, x3, x4, x5, x6, x7, ()) h hJ => h1 τ x1 x2 x3 x4 x5 x6 x7 h hJ, h2⟩
theorem loop8 {s1 s2 s3 s4 s5 s6 s7 s8 : Sh} {body : (Nat → Value) → s1.T → s2.T → s3.T → s4.T → s5.T → s6.T → s7.T → s8.T → Heap → (s1.T → s2.T → s3.T → s4.T → s5.T → s6.T → s7.T → s8.T → Heap → Prop) → Prop} {x1 : s1.T} {x2 : s2.T} {x3 : s3.T} {x4 : s4.T} {x5 : s5.T} {x6 : s6.T} {x7 : s7.T} {x8 : s8.T} {h : Heap} (I : s1.T → s2.T → s3.T → s4.T → s5.T → s6.T → s7.T → s8.T → Heap → Prop) (μ : s1.T → s2.T → s3.T → s4.T → s5.T → s6.T → s7.T → s8.T → Heap → Nat) (h0 : I x1 x2 x3 x4 x5 x6 x7 x8 h)
    (hr : ∀ τ x1 x2 x3 x4 x5 x6 x7 x8 h, I x1 x2 x3 x4 x5 x6 x7 x8 h → body τ x1 x2 x3 x4 x5 x6 x7 x8 h (fun y1 y2 y3 y4 y5 y6 y7 y8 h' => I y1 y2 y3 y4 y5 y6 y7 y8 h' ∧ μ y1 y2 y3 y4 y5 y6 y7 y8 h' < μ x1 x2 x3 x4 x5 x6 x7 x8 h)) : Loop [s1, s2, s3, s4, s5, s6, s7, s8] body (x1, x2, x3, x4, x5, x6, x7, x8, ()) h :=
  ⟨I, μ, h0, fun τ (x1, x2, x3, x4, x5, x6, x7, x8, ()) h hI => hr τ x1 x2 x3 x4 x5 x6 x7 x8 h hI⟩
theorem join8 {s1 s2 s3 s4 s5 s6 s7 s8 : Sh} {rest : (Nat → Value) → s1.T → s2.T → s3.T → s4.T → s5.T → s6.T → s7.T → s8.T → Heap → Prop} {body : (s1.T → s2.T → s3.T → s4.T → s5.T → s6.T → s7.T → s8.T → Heap → Prop) → Prop} (J : s1.T → s2.T → s3.T → s4.T → s5.T → s6.T → s7.T → s8.T → Heap → Prop) (h1 : ∀ τ x1 x2 x3 x4 x5 x6 x7 x8 h, J x1 x2 x3 x4 x5 x6 x7 x8 h → rest τ x1 x2 x3 x4 x5 x6 x7 x8 h) (h2 : body J) : Join [s1, s2, s3, s4, s5, s6, s7, s8] rest body :=
  ⟨J, fun τ (x1, x2, x3, x4, x5, x6, x7, x8, ()) h hJ => h1 τ x1 x2 x3 x4 x5 x6 x7 x8 h hJ, h2⟩
theorem loop9 {s1 s2 s3 s4 s5 s6 s7 s8 s9 : Sh} {body : (Nat → Value) → s1.T → s2.T → s3.T → s4.T → s5.T → s6.T → s7.T → s8.T → s9.T → Heap → (s1.T → s2.T → s3.T → s4.T → s5.T → s6.T → s7.T → s8.T → s9.T → Heap → Prop) → Prop} {x1 : s1.T} {x2 : s2.T} {x3 : s3.T} {x4 : s4.T} {x5 : s5.T} {x6 : s6.T} {x7 : s7.T} {x8 : s8.T} {x9 : s9.T} {h : Heap} (I : s1.T → s2.T → s3.T → s4.T → s5.T → s6.T → s7.T → s8.T → s9.T → Heap → Prop) (μ : s1.T → s2.T → s3.T → s4.T → s5.T → s6.T → s7.T → s8.T → s9.T → Heap → Nat) (h0 : I x1 x2 x3 x4 x5 x6 x7 x8 x9 h)
    (hr : ∀ τ x1 x2 x3 x4 x5 x6 x7 x8 x9 h, I x1 x2 x3 x4 x5 x6 x7 x8 x9 h → body τ x1 x2 x3 x4 x5 x6 x7 x8 x9 h (fun y1 y2 y3 y4 y5 y6 y7 y8 y9 h' => I y1 y2 y3 y4 y5 y6 y7 y8 y9 h' ∧ μ y1 y2 y3 y4 y5 y6 y7 y8 y9 h' < μ x1 x2 x3 x4 x5 x6 x7 x8 x9 h)) : Loop [s1, s2, s3, s4, s5, s6, s7, s8, s9] body (x1, x2, x3, x4, x5, x6, x7, x8, x9, ()) h :=
  ⟨I, μ, h0, fun τ (x1, x2, x3, x4, x5, x6, x7, x8, x9, ()) h hI => hr τ x1 x2 x3 x4 x5 x6 x7 x8 x9 h hI⟩
theorem join9 {s1 s2 s3 s4 s5 s6 s7 s8 s9 : Sh} {rest : (Nat → Value) → s1.T → s2.T → s3.T → s4.T → s5.T → s6.T → s7.T → s8.T → s9.T → Heap → Prop} {body : (s1.T → s2.T → s3.T → s4.T → s5.T → s6.T → s7.T → s8.T → s9.T → Heap → Prop) → Prop} (J : s1.T → s2.T → s3.T → s4.T → s5.T → s6.T → s7.T → s8.T → s9.T → Heap → Prop) (h1 : ∀ τ x1 x2 x3 x4 x5 x6 x7 x8 x9 h, J x1 x2 x3 x4 x5 x6 x7 x8 x9 h → rest τ x1 x2 x3 x4 x5 x6 x7 x8 x9 h) (h2 : body J) : Join [s1, s2, s3, s4, s5, s6, s7, s8, s9] rest body :=
  ⟨J, fun τ (x1, x2, x3, x4, x5, x6, x7, x8, x9, ()) h hJ => h1 τ x1 x2 x3 x4 x5 x6 x7 x8 x9 h hJ, h2⟩
theorem loop10 {s1 s2 s3 s4 s5 s6 s7 s8 s9 s10 : Sh} {body : (Nat → Value) → s1.T → s2.T → s3.T → s4.T → s5.T → s6.T → s7.T → s8.T → s9.T → s10.T → Heap → (s1.T → s2.T → s3.T → s4.T → s5.T → s6.T → s7.T → s8.T → s9.T → s10.T → Heap → Prop) → Prop} {x1 : s1.T} {x2 : s2.T} {x3 : s3.T} {x4 : s4.T} {x5 : s5.T} {x6 : s6.T} {x7 : s7.T} {x8 : s8.T} {x9 : s9.T} {x10 : s10.T} {h : Heap} (I : s1.T → s2.T → s3.T → s4.T → s5.T → s6.T → s7.T → s8.T → s9.T → s10.T → Heap → Prop) (μ : s1.T → s2.T → s3.T → s4.T → s5.T → s6.T → s7.T → s8.T → s9.T → s10.T → Heap → Nat) (h0 : I x1 x2 x3 x4 x5 x6 x7 x8 x9 x10 h)
    (hr : ∀ τ x1 x2 x3 x4 x5 x6 x7 x8 x9 x10 h, I x1 x2 x3 x4 x5 x6 x7 x8 x9 x10 h → body τ x1 x2 x3 x4 x5 x6 x7 x8 x9 x10 h (fun y1 y2 y3 y4 y5 y6 y7 y8 y9 y10 h' => I y1 y2 y3 y4 y5 y6 y7 y8 y9 y10 h' ∧ μ y1 y2 y3 y4 y5 y6 y7 y8 y9 y10 h' < μ x1 x2 x3 x4 x5 x6 x7 x8 x9 x10 h)) : Loop [s1, s2, s3, s4, s5, s6, s7, s8, s9, s10] body (x1, x2, x3, x4, x5, x6, x7, x8, x9, x10, ()) h :=
  ⟨I, μ, h0, fun τ (x1, x2, x3, x4, x5, x6, x7, x8, x9, x10, ()) h hI => hr τ x1 x2 x3 x4 x5 x6 x7 x8 x9 x10 h hI⟩
theorem join10 {s1 s2 s3 s4 s5 s6 s7 s8 s9 s10 : Sh} {rest : (Nat → Value) → s1.T → s2.T → s3.T → s4.T → s5.T → s6.T → s7.T → s8.T → s9.T → s10.T → Heap → Prop} {body : (s1.T → s2.T → s3.T → s4.T → s5.T → s6.T → s7.T → s8.T → s9.T → s10.T → Heap → Prop) → Prop} (J : s1.T → s2.T → s3.T → s4.T → s5.T → s6.T → s7.T → s8.T → s9.T → s10.T → Heap → Prop) (h1 : ∀ τ x1 x2 x3 x4 x5 x6 x7 x8 x9 x10 h, J x1 x2 x3 x4 x5 x6 x7 x8 x9 x10 h → rest τ x1 x2 x3 x4 x5 x6 x7 x8 x9 x10 h) (h2 : body J) : Join [s1, s2, s3, s4, s5, s6, s7, s8, s9, s10] rest body :=
  ⟨J, fun τ (x1, x2, x3, x4, x5, x6, x7, x8, x9, x10, ()) h hJ => h1 τ x1 x2 x3 x4 x5 x6 x7 x8 x9 x10 h hJ, h2⟩
theorem loop11 {s1 s2 s3 s4 s5 s6 s7 s8 s9 s10 s11 : Sh} {body : (Nat → Value) → s1.T → s2.T → s3.T → s4.T → s5.T → s6.T → s7.T → s8.T → s9.T → s10.T → s11.T → Heap → (s1.T → s2.T → s3.T → s4.T → s5.T → s6.T → s7.T → s8.T → s9.T → s10.T → s11.T → Heap → Prop) → Prop} {x1 : s1.T} {x2 : s2.T} {x3 : s3.T} {x4 : s4.T} {x5 : s5.T} {x6 : s6.T} {x7 : s7.T} {x8 : s8.T} {x9 : s9.T} {x10 : s10.T} {x11 : s11.T} {h : Heap} (I : s1.T → s2.T → s3.T → s4.T → s5.T → s6.T → s7.T → s8.T → s9.T → s10.T → s11.T → Heap → Prop) (μ : s1.T → s2.T → s3.T → s4.T → s5.T → s6.T → s7.T → s8.T → s9.T → s10.T → s11.T → Heap → Nat) (h0 : I x1 x2 x3 x4 x5 x6 x7 x8 x9 x10 x11 h)
    (hr : ∀ τ x1 x2 x3 x4 x5 x6 x7 x8 x9 x10 x11 h, I x1 x2 x3 x4 x5 x6 x7 x8 x9 x10 x11 h → body τ x1 x2 x3 x4 x5 x6 x7 x8 x9 x10 x11 h (fun y1 y2 y3 y4 y5 y6 y7 y8 y9 y10 y11 h' => I y1 y2 y3 y4 y5 y6 y7 y8 y9 y10 y11 h' ∧ μ y1 y2 y3 y4 y5 y6 y7 y8 y9 y10 y11 h' < μ x1 x2 x3 x4 x5 x6 x7 x8 x9 x10 x11 h)) : Loop [s1, s2, s3, s4, s5, s6, s7, s8, s9, s10, s11] body (x1, x2, x3, x4, x5, x6, x7, x8, x9, x10, x11, ()) h :=
  ⟨I, μ, h0, fun τ (x1, x2, x3, x4, x5, x6, x7, x8, x9, x10, x11, ()) h hI => hr τ x1 x2 x3 x4 x5 x6 x7 x8 x9 x10 x11 h hI⟩
theorem join11 {s1 s2 s3 s4 s5 s6 s7 s8 s9 s10 s11 : Sh} {rest : (Nat → Value) → s1.T → s2.T → s3.T → s4.T → s5.T → s6.T → s7.T → s8.T → s9.T → s10.T → s11.T → Heap → Prop} {body : (s1.T → s2.T → s3.T → s4.T → s5.T → s6.T → s7.T → s8.T → s9.T → s10.T → s11.T → Heap → Prop) → Prop} (J : s1.T → s2.T → s3.T → s4.T → s5.T → s6.T → s7.T → s8.T → s9.T → s10.T → s11.T → Heap → Prop) (h1 : ∀ τ x1 x2 x3 x4 x5 x6 x7 x8 x9 x10 x11 h, J x1 x2 x3 x4 x5 x6 x7 x8 x9 x10 x11 h → rest τ x1 x2 x3 x4 x5 x6 x7 x8 x9 x10 x11 h) (h2 : body J) : Join [s1, s2, s3, s4, s5, s6, s7, s8, s9, s10, s11] rest body :=
  ⟨J, fun τ (x1, x2, x3, x4, x5, x6, x7, x8, x9, x10, x11, ()) h hJ => h1 τ x1 x2 x3 x4 x5 x6 x7 x8 x9 x10 x11 h hJ, h2⟩
theorem loop12 {s1 s2 s3 s4 s5 s6 s7 s8 s9 s10 s11 s12 : Sh} {body : (Nat → Value) → s1.T → s2.T → s3.T → s4.T → s5.T → s6.T → s7.T → s8.T → s9.T → s10.T → s11.T → s12.T → Heap → (s1.T → s2.T → s3.T → s4.T → s5.T → s6.T → s7.T → s8.T → s9.T → s10.T → s11.T → s12.T → Heap → Prop) → Prop} {x1 : s1.T} {x2 : s2.T} {x3 : s3.T} {x4 : s4.T} {x5 : s5.T} {x6 : s6.T} {x7 : s7.T} {x8 : s8.T} {x9 : s9.T} {x10 : s10.T} {x11 : s11.T} {x12 : s12.T} {h : Heap} (I : s1.T → s2.T → s3.T → s4.T → s5.T → s6.T → s7.T → s8.T → s9.T → s10.T → s11.T → s12.T → Heap → Prop) (μ : s1.T → s2.T → s3.T → s4.T → s5.T → s6.T → s7.T → s8.T → s9.T → s10.T → s11.T → s12.T → Heap → Nat) (h0 : I x1 x2 x3 x4 x5 x6 x7 x8 x9 x10 x11 x12 h)
    (hr : ∀ τ x1 x2 x3 x4 x5 x6 x7 x8 x9 x10 x11 x12 h, I x1 x2 x3 x4 x5 x6 x7 x8 x9 x10 x11 x12 h → body τ x1 x2 x3 x4 x5 x6 x7 x8 x9 x10 x11 x12 h (fun y1 y2 y3 y4 y5 y6 y7 y8 y9 y10 y11 y12 h' => I y1 y2 y3 y4 y5 y6 y7 y8 y9 y10 y11 y12 h' ∧ μ y1 y2 y3 y4 y5 y6 y7 y8 y9 y10 y11 y12 h' < μ x1 x2 x3 x4 x5 x6 x7 x8 x9 x10 x11 x12 h)) : Loop [s1, s2, s3, s4, s5, s6, s7, s8, s9, s10, s11, s12] body (x1, x2, x3, x4, x5, x6, x7, x8, x9, x10, x11, x12, ()) h :=
  ⟨I, μ, h0, fun τ (x1, x2, x3, x4, x5, x6, x7, x8, x9, x10, x11, x12, ()) h hI => hr τ x1 x2 x3 x4 x5 x6 x7 x8 x9 x10 x11 x12 h hI⟩
theorem join12 {s1 s2 s3 s4 s5 s6 s7 s8 s9 s10 s11 s12 : Sh} {rest : (Nat → Value) → s1.T → s2.T → s3.T → s4.T → s5.T → s6.T → s7.T → s8.T → s9.T → s10.T → s11.T → s12.T → Heap → Prop} {body : (s1.T → s2.T → s3.T → s4.T → s5.T → s6.T → s7.T → s8.T → s9.T → s10.T → s11.T → s12.T → Heap → Prop) → Prop} (J : s1.T → s2.T → s3.T → s4.T → s5.T → s6.T → s7.T → s8.T → s9.T → s10.T → s11.T → s12.T → Heap → Prop) (h1 : ∀ τ x1 x2 x3 x4 x5 x6 x7 x8 x9 x10 x11 x12 h, J x1 x2 x3 x4 x5 x6 x7 x8 x9 x10 x11 x12 h → rest τ x1 x2 x3 x4 x5 x6 x7 x8 x9 x10 x11 x12 h) (h2 : body J) : Join [s1, s2, s3, s4, s5, s6, s7, s8, s9, s10, s11, s12] rest body :=
  ⟨J, fun τ (x1, x2, x3, x4, x5, x6, x7, x8, x9, x10, x11, x12, ()) h hJ => h1 τ x1 x2 x3 x4 x5 x6 x7 x8 x9 x10 x11 x12 h hJ, h2⟩

/-! ## Slices -/
def Sl.blk (s : Sl) : Option Nat := s.a.map (·.block)
/-- A slice that reads as these cells. -/
def RdS (h : Heap) (sz : Nat) (s : Sl) (xs : List Value) : Prop :=
  xs.length = s.n * sz ∧ (0 < xs.length → ∃ g o, s.a = some ⟨g, o, none⟩ ∧ ∀ j, j < xs.length → cellH h ⟨g, o + j, none⟩ = xs[j]?)
/-- A slice that may be written, up to its capacity. -/
def Own (h : Heap) (sz : Nat) (s : Sl) (xs : List Value) : Prop :=
  xs.length = s.n * sz ∧ s.n ≤ s.c ∧ s.c ≤ 9223372036854775807 ∧
    ((s.a = none ∧ s.c = 0) ∨ ∃ g o, s.a = some ⟨g, o, none⟩ ∧ g < h.size ∧ (∀ j, j < xs.length → cellH h ⟨g, o + j, none⟩ = xs[j]?) ∧
      ∀ j, j < s.c * sz → (cellH h ⟨g, o + j, none⟩).isSome = true ∧ frozenH h ⟨g, o + j, none⟩ = false)
theorem Own.rd {h : Heap} {sz : Nat} {s : Sl} {xs : List Value} (ho : Own h sz s xs) : RdS h sz s xs := by
  obtain ⟨h1, h2, _, h3⟩ := ho
  refine ⟨h1, fun hp => ?_⟩
  rcases h3 with ⟨_, hc⟩ | ⟨g, o, ha, _, hx, _⟩
  · rw [h1, show s.n = 0 by omega] at hp; simp at hp
  · exact ⟨g, o, ha, hx⟩
theorem RdS.nil (h : Heap) (sz : Nat) (a : Option Addr) (c : Nat) : RdS h sz ⟨a, 0, c⟩ [] := ⟨by simp, fun h => by simp at h⟩
theorem Own.nil (h : Heap) (sz : Nat) : Own h sz ⟨none, 0, 0⟩ [] := ⟨by simp, Nat.le_refl _, Nat.zero_le _, .inl ⟨rfl, rfl⟩⟩
theorem RdS.keep {h h' : Heap} {sz : Nat} {s : Sl} {xs : List Value} (hr : RdS h sz s xs) (hk : ∀ g, s.blk = some g → g < h.size → h'[g]? = h[g]?) : RdS h' sz s xs := by
  refine ⟨hr.1, fun hp => ?_⟩
  obtain ⟨g, o, ha, hx⟩ := hr.2 hp
  have hg : g < h.size := lt_of_cell (a := ⟨g, o + 0, none⟩) ((hx 0 hp).trans (List.getElem?_eq_getElem hp))
  exact ⟨g, o, ha, fun j hj => (cellH_eq (hk g (by simp [Sl.blk, ha]) hg)).trans (hx j hj)⟩
theorem Own.keep {h h' : Heap} {sz : Nat} {s : Sl} {xs : List Value} (hr : Own h sz s xs) (hsz : h.size ≤ h'.size) (hk : ∀ g, s.blk = some g → g < h.size → h'[g]? = h[g]?) : Own h' sz s xs := by
  obtain ⟨h1, h2, h3, h4⟩ := hr
  refine ⟨h1, h2, h3, h4.imp id ?_⟩
  rintro ⟨g, o, ha, hg, hx, hc⟩
  have e := hk g (by simp [Sl.blk, ha]) hg
  exact ⟨g, o, ha, by omega, fun j hj => (cellH_eq e).trans (hx j hj), fun j hj => ⟨by rw [cellH_eq e]; exact (hc j hj).1, by rw [frozenH_eq e]; exact (hc j hj).2⟩⟩
/-- Its block lies below B (if it has one). -/
def Sl.below (s : Sl) (B : Nat) : Prop := ∀ g, s.blk = some g → g < B
def Sl.from_ (s : Sl) (B : Nat) : Prop := ∀ g, s.blk = some g → B ≤ g
theorem RdS.ext {B : Nat} {h h' : Heap} {sz : Nat} {s : Sl} {xs : List Value} (hr : RdS h sz s xs) (he : Ext B h h') (hb : s.below B) : RdS h' sz s xs := hr.keep fun g hg _ => he.2 g (hb g hg)
theorem RdS.ext' {h h' : Heap} {sz : Nat} {s : Sl} {xs : List Value} (hr : RdS h sz s xs) (he : Ext h.size h h') : RdS h' sz s xs := hr.keep fun g _ hl => he.2 g hl
theorem Own.ext' {h h' : Heap} {sz : Nat} {s : Sl} {xs : List Value} (hr : Own h sz s xs) (he : Ext h.size h h') : Own h' sz s xs := hr.keep he.1 fun g _ hl => he.2 g hl
theorem RdS.upd {F : Nat → Prop} {h h' : Heap} {sz : Nat} {s : Sl} {xs : List Value} (hr : RdS h sz s xs) (he : Upd F h h') (hb : ∀ g, s.blk = some g → ¬ F g) : RdS h' sz s xs := hr.keep fun g hg hl => he.keep g hl (hb g hg)
theorem Own.upd {F : Nat → Prop} {h h' : Heap} {sz : Nat} {s : Sl} {xs : List Value} (hr : Own h sz s xs) (he : Upd F h h') (hb : ∀ g, s.blk = some g → ¬ F g) : Own h' sz s xs := hr.keep he.size fun g hg hl => he.keep g hl (hb g hg)
theorem Own.of_blk {h : Heap} {b : Nat} {t : TypeId} {cs : List Value} (hb : Blk h b t cs) {sz n c : Nat} (hc : cs.length = c * sz) (hn : n ≤ c) (hm : c ≤ 9223372036854775807) : Own h sz ⟨some ⟨b, 0, none⟩, n, c⟩ (cs.take (n * sz)) := by
  have hnc : n * sz ≤ c * sz := Nat.mul_le_mul_right _ hn
  refine ⟨by rw [List.length_take, hc]; exact Nat.min_eq_left hnc, hn, hm, .inr ⟨b, 0, rfl, hb.lt, fun j hj => ?_, fun j hj => ?_⟩⟩
  · rw [Nat.zero_add, hb.cell, List.getElem?_take]
    rw [List.length_take] at hj
    rw [if_pos (by omega)]
  · have hj' : j < c * sz := hj
    rw [Nat.zero_add]
    exact ⟨by rw [hb.cell, List.getElem?_eq_getElem (by omega)]; rfl, hb.free (by omega)⟩
theorem Own.full {h : Heap} {b : Nat} {t : TypeId} {cs : List Value} (hb : Blk h b t cs) {sz n : Nat} (hc : cs.length = n * sz) (hm : n ≤ 9223372036854775807) : Own h sz ⟨some ⟨b, 0, none⟩, n, n⟩ cs := by
  have := Own.of_blk hb hc (Nat.le_refl n) hm
  rwa [← hc, List.take_length] at this

/-- An element of a slice that is read. -/
theorem ix {h : Heap} {sz : Nat} {s : Sl} {xs : List Value} {i : Int} {K : Addr → Prop} (hr : RdS h sz s xs) (h0 : 0 ≤ i) (h1 : i < s.n) (hsz : 0 < sz)
    (hk : ∀ g o, s.blk = some g → (∀ j, j < sz → cellH h ⟨g, o + j, none⟩ = xs[i.toNat * sz + j]?) → K ⟨g, o, none⟩) : Ix s i sz K := by
  have hi : i.toNat < s.n := by omega
  have hle : i.toNat * sz + sz ≤ s.n * sz := by rw [← Nat.succ_mul]; exact Nat.mul_le_mul_right _ hi
  obtain ⟨g, o, ha, hx⟩ := hr.2 (by rw [hr.1]; omega)
  refine ⟨_, ha, h0, h1, ?_⟩
  rw [show ((⟨g, o, none⟩ : Addr).add (i.toNat * sz)) = ⟨g, o + i.toNat * sz, none⟩ by
    unfold Addr.add; split
    · rename_i e; rw [e]; rfl
    · rfl]
  refine hk g _ (by simp [Sl.blk, ha]) fun j hj => ?_
  rw [Nat.add_assoc]
  exact hx _ (by rw [hr.1]; omega)

/-! ### append -/
/-- What is known of a type of slices. -/
structure ElemT (P : Program) (t e : TypeId) (sz by_ : Nat) : Prop where
  und : P.underlying t = some (.slice e)
  info : ∃ i z, P.info? e = some i ∧ i.zero = some z ∧ i.size = sz ∧ i.bytes = by_ ∧ z.cells.size = sz
  pos : 0 < sz
def elemB (P : Program) (t e sz by_ : Nat) : Bool :=
  (match P.underlying t with
    | some (.slice e') => Nat.beq e' e
    | _ => false) &&
  (match P.info? e with
    | some i => (match i.zero with
      | some z => Nat.beq i.size sz && Nat.beq i.bytes by_ && Nat.beq z.cells.size sz
      | none => false)
    | none => false) && Nat.ble 1 sz
theorem ElemT.of {P : Program} {t e sz by_ : Nat} (h : elemB P t e sz by_ = true) : ElemT P t e sz by_ := by
  unfold elemB at h
  simp only [Bool.and_eq_true] at h
  obtain ⟨⟨h1, h2⟩, h3⟩ := h
  refine ⟨?_, ?_, Nat.le_of_ble_eq_true h3⟩
  · split at h1
    · rename_i e' he
      rw [he, Nat.eq_of_beq_eq_true h1]
    · cases h1
  · split at h2
    · rename_i i hi
      split at h2
      · rename_i z hz
        simp only [Bool.and_eq_true] at h2
        exact ⟨i, z, hi, hz, Nat.eq_of_beq_eq_true h2.1.1, Nat.eq_of_beq_eq_true h2.1.2, Nat.eq_of_beq_eq_true h2.2⟩
      · cases h2
    · cases h2
theorem env_setCells (w : World) (b : Nat) : ∀ (vs : List Value) (o : Nat), Env w (w.setCells b o vs)
  | vs, o => ⟨World.os_setCells w b o vs, by
      induction vs generalizing o w with
      | nil => rfl
      | cons v vs ih => exact (ih (w.setCell ⟨b, o, none⟩ v) (o + 1)).trans rfl, World.output_setCells w b o vs⟩
theorem size_setCells (b : Nat) : ∀ (vs : List Value) (o : Nat) (w : World), (w.setCells b o vs).heap.size = w.heap.size
  | [], _, _ => rfl
  | v :: vs, o, w => (size_setCells b vs (o + 1) (w.setCell ⟨b, o, none⟩ v)).trans (by simp [World.setCell])
theorem get_setCells (b : Nat) : ∀ (vs : List Value) (o : Nat) (w : World) {k : Nat}, k ≠ b → (w.setCells b o vs).heap[k]? = w.heap[k]?
  | [], _, _, _, _ => rfl
  | v :: vs, o, w, k, hk => (get_setCells b vs (o + 1) (w.setCell ⟨b, o, none⟩ v) hk).trans (by
      simp only [World.setCell, Array.getElem?_modify]; rw [if_neg (fun e => hk e.symm)])
/-- What the appended part yields. -/
def SrcH (P : Program) (sz : Nat) (tx : TypeId) (x : Value) (n : Nat) (ys : List Value) (h : Heap) : Prop := ∀ w : World, w.heap = h → Src P sz tx x n ys w
theorem SrcH.slice {P : Program} {sz : Nat} {tx e : TypeId} {h : Heap} {x : Sl} {ys : List Value} (hk : P.underlying tx = some (.slice e)) (hr : RdS h sz x ys) (h1 : ∀ u ∈ ys, u.oneCell' = true) (hsz : 0 < sz) :
    SrcH P sz tx (.slice x.a x.n x.c) x.n ys h := by
  intro w hw
  by_cases hp : 0 < ys.length
  · obtain ⟨g, o, ha, hx⟩ := hr.2 hp
    rw [ha]
    refine Src.ofSlice w hk _ _ _ _ hr.1 (fun j u hu => ?_) h1
    have hj : j < ys.length := (List.getElem?_eq_some_iff.1 hu).1
    rw [Addr.add_lit, cell_eq, hw, hx j hj, hu]
  · have hn : ys = [] := List.eq_nil_of_length_eq_zero (by omega)
    subst hn
    have hxn : x.n = 0 := by
      have := hr.1
      simp only [List.length_nil] at this
      rcases Nat.mul_eq_zero.1 this.symm with h0 | h0
      · exact h0
      · omega
    rw [hxn]
    cases ha : x.a with
    | none => exact Src.ofNil w hk _
    | some a => exact Src.ofSlice w hk _ _ _ _ (by simp) (fun j u hu => by simp at hu) (fun _ h => by cases h)
theorem SrcH.str {P : Program} {tx : TypeId} {h : Heap} (hk : P.underlying tx = some .string) (s : ByteArray) : SrcH P 1 tx (.string s) s.size (byteCells s) h := fun w _ => Src.ofString w hk s
theorem nextcap_le (n c : Nat) (h : c < n) : Builtin.nextslicecap n c ≤ 2 * n := by
  unfold Builtin.nextslicecap
  split
  · omega
  · split
    · omega
    · have key : ∀ r k, k ≤ 2 * n → Builtin.growBy n r k ≤ 2 * n ∨ k < n := by
        intro r k hk
        by_cases hkn : k < n
        · exact .inr hkn
        · left
          cases r with
          | zero => exact hk
          | succ r => unfold Builtin.growBy; rw [if_pos (by omega)]; exact hk
      -- each step at most doubles what is below n
      have step : ∀ r k, 256 ≤ k → k ≤ 2 * n → Builtin.growBy n r k ≤ 2 * n := by
        intro r
        induction r with
        | zero => intro k _ hk; exact hk
        | succ r ih =>
          intro k h256 hk
          unfold Builtin.growBy
          split
          · exact hk
          · exact ih _ (by omega) (by omega)
      exact step 4 c (by omega) (by omega)

theorem opT_app_full {P : Program} {t tx ty e : TypeId} {sz by_ : Nat} (hT : ElemT P t e sz by_) {s : Sl} {h : Heap} {xs ys : List Value} {x : Value} {n : Nat} {K : Sl → Heap → Prop}
    (ho : Own h sz s xs) (hx : SrcH P sz tx x n ys h) (hlen : (s.n + n) * by_ ≤ 140737488355328) (h63 : s.n + n ≤ 4611686018427387903)
    (hk : ∀ s' h', Own h' sz s' (xs ++ ys) → s'.n = s.n + n → Upd (fun k => s.blk = some k) h h' → (s'.blk = s.blk ∨ s'.from_ h.size) → (s.n + n ≤ s.c → s' = ⟨s.a, s.n + n, s.c⟩ ∧ h'.size = h.size) → (¬ s.n + n ≤ s.c → Ext h.size h h') → K s' h') :
    OpT P (Builtin.append_ #[t, tx] ty #[.slice s.a s.n s.c, x]) h [.one .sl] K := by
  intro w hw
  obtain ⟨hu, ⟨i, z, hi, hz, hsz, hby, hzs⟩, hpos⟩ := hT
  have hs := hx w hw
  obtain ⟨h1, h2, h3, h4⟩ := ho
  have hyl : ys.length = n * sz := hs.newsLen
  have done : ∀ (s' : Sl) (w' : World), (Builtin.append_ #[t, tx] ty #[.slice s.a s.n s.c, x]).run P w = .ok (.slice s'.a s'.n s'.c) w' → Env w w' → K s' w'.heap →
      ∃ v w', (Builtin.append_ #[t, tx] ty #[.slice s.a s.n s.c, x]).run P w = .ok v w' ∧ Env w w' ∧ ∃ y, v = retV [.one .sl] y ∧ TH.un [.one .sl] K y w'.heap := fun s' w' hr hE hK =>
    ⟨_, w', hr, hE, (s', ()), rfl, hK⟩
  by_cases hroom : s.n + n ≤ s.c
  · rcases h4 with ⟨ha, hc⟩ | ⟨g, o, ha, hg, hcells, hwr⟩
    · -- nothing onto nil
      have hn0 : n = 0 := by omega
      have hs0 : s.n = 0 := by omega
      subst hn0
      have hys : ys = [] := List.eq_nil_of_length_eq_zero (by simpa using hyl)
      have hxs : xs = [] := List.eq_nil_of_length_eq_zero (by rw [h1, hs0]; simp)
      subst hys; subst hxs
      refine done s w ?_ (Env.refl w) ?_
      · exact run_append_nothing w t tx ty e i hu hi s.a s.n s.c (by omega) x (by rw [hsz]; exact hs)
      · rw [hw]
        exact hk s h (by simpa using ⟨h1, h2, h3, .inl ⟨ha, hc⟩⟩) rfl (Upd.refl _ _) (.inl rfl) (fun _ => ⟨rfl, rfl⟩) fun hn => absurd hroom hn
    · have hlt : s.n * sz + ys.length ≤ s.c * sz := by rw [hyl, ← Nat.add_mul]; exact Nat.mul_le_mul_right _ hroom
      have hr := run_append_room_src (P := P) w t tx ty e i hu hi g o s.n s.c x n ys (by rw [hsz]; exact hs) hroom
        (fun j hj => by rw [hsz, Nat.add_assoc, cell_eq, hw]; exact (hwr _ (by omega)).1) (fun j hj => by rw [hsz, Nat.add_assoc, frozen_eq, hw]; exact (hwr _ (by omega)).2)
      rw [hsz] at hr
      rw [← ha] at hr
      refine done ⟨s.a, s.n + n, s.c⟩ _ hr (env_setCells w g ys _) ?_
      have hfr : ∀ y : Addr, frozenH (w.setCells g (o + s.n * sz) ys).heap y = frozenH h y := fun y => by rw [← frozen_eq, World.frozen?_setCells, frozen_eq, hw]
      have hsome : ∀ j, j < ys.length → (w.cell? ⟨g, o + s.n * sz + j, none⟩).isSome = true := fun j hj => by rw [Nat.add_assoc, cell_eq, hw]; exact (hwr _ (by omega)).1
      have hcell : ∀ j, j < (xs ++ ys).length → cellH (w.setCells g (o + s.n * sz) ys).heap ⟨g, o + j, none⟩ = (xs ++ ys)[j]? := fun j hj => by
        rw [← cell_eq]
        by_cases hjx : j < xs.length
        · rw [World.cell?_setCells_out g _ _ _ _ (fun _ _ => .inl (by show o + j < o + s.n * sz; omega)), cell_eq, hw, hcells j hjx, List.getElem?_append_left hjx]
        · have hj' : j - xs.length < ys.length := by rw [List.length_append] at hj; omega
          have := World.cell?_setCells_in g ys (o + s.n * sz) w hsome (j - xs.length) hj'
          rw [show o + s.n * sz + (j - xs.length) = o + j by omega] at this
          rw [this, List.getElem?_append_right (by omega), List.getElem?_eq_getElem hj']
      refine hk _ _ ⟨by rw [List.length_append, h1, hyl]; simp [Nat.add_mul], hroom, h3, .inr ⟨g, o, ha, by rw [size_setCells, hw]; exact hg, hcell, fun j hj => ?_⟩⟩ rfl ⟨by rw [size_setCells, hw]; exact Nat.le_refl _, fun k hk hn => ?_⟩ (.inl rfl) (fun _ => ⟨rfl, by rw [size_setCells, hw]⟩) fun hn => absurd hroom hn
      · refine ⟨?_, by rw [hfr]; exact (hwr j hj).2⟩
        by_cases hj2 : j < (xs ++ ys).length
        · rw [hcell j hj2, List.getElem?_eq_getElem hj2]; rfl
        · rw [← cell_eq, World.cell?_setCells_out g _ _ _ _ (fun _ _ => .inr (by show o + s.n * sz + ys.length ≤ o + j; rw [List.length_append] at hj2; omega)), cell_eq, hw]
          exact (hwr j hj).1
      · rw [get_setCells g ys _ w (fun e => hn (by simp [Sl.blk, ha, e])), hw]
  · have hfit : Builtin.nextslicecap (s.n + n) s.c * i.bytes ≤ 281474976710656 := by
      have := nextcap_le (s.n + n) s.c (by omega)
      rw [hby]
      calc Builtin.nextslicecap (s.n + n) s.c * by_ ≤ (2 * (s.n + n)) * by_ := Nat.mul_le_mul_right _ this
        _ = 2 * ((s.n + n) * by_) := by rw [Nat.mul_assoc]
        _ ≤ 281474976710656 := by omega
    have hold : (Builtin.firstCells i.size s.n (.slice s.a s.n s.c)).run P w.drew = .ok xs.toArray w.drew := by
      rw [hsz]
      rcases h4 with ⟨ha, hc⟩ | ⟨g, o, ha, hg, hcells, hwr⟩
      · have hs0 : s.n = 0 := by omega
        have hxs : xs = [] := List.eq_nil_of_length_eq_zero (by rw [h1, hs0]; simp)
        rw [ha, hxs]
        exact run_firstCells_none w.drew sz s.n s.n s.c
      · rw [ha]
        refine run_firstCells_some w.drew sz s.n _ s.n s.c xs h1 fun j u hj => ?_
        have hjl : j < xs.length := (List.getElem?_eq_some_iff.1 hj).1
        rw [Addr.add_lit]
        show w.cell? ⟨g, o + j, none⟩ = some u
        rw [cell_eq, hw, hcells j hjl, hj]
    have hr := run_append_grow_src (P := P) w t tx ty e i z hu hi hz s.a s.n s.c xs hold x n ys (by rw [hsz]; exact hs) (by omega) (by omega) hfit
    have hge := grownCap_ge w (s.n + n) s.c e
    have hle := grownCap_le_maxLen w (s.n + n) s.c e (by simp only [maxLen]; omega)
    refine done ⟨some ⟨w.heap.size, 0, none⟩, s.n + n, grownCap w (s.n + n) s.c e⟩ _ hr ⟨rfl, rfl, rfl⟩ ?_
    generalize hG : grownCap w (s.n + n) s.c e = G at *
    have hlen2 : ((xs ++ ys).toArray ++ Builtin.zeroCells z.cells (G - (s.n + n))).toList.length = G * sz := by
      simp only [Array.toList_append, List.length_append, Array.length_toList, size_zeroCells, hzs, h1, hyl, ← Nat.add_mul]
      congr 1; omega
    have hb := Blk.new w.heap e ((xs ++ ys).toArray ++ Builtin.zeroCells z.cells (G - (s.n + n))).toList
    have hown := Own.of_blk hb (n := s.n + n) hlen2 hge (by simp only [maxLen] at hle; omega)
    have htake : (((xs ++ ys).toArray ++ Builtin.zeroCells z.cells (G - (s.n + n))).toList).take ((s.n + n) * sz) = xs ++ ys := by
      have hl3 : (xs ++ ys).length = (s.n + n) * sz := by rw [List.length_append, h1, hyl, Nat.add_mul]
      rw [Array.toList_append, ← hl3]
      exact List.take_left
    rw [htake] at hown
    have hheap : (w.drew.alloc (.cells ((xs ++ ys).toArray ++ Builtin.zeroCells z.cells (G - (s.n + n))) e)).heap = w.heap.push (.cells ((xs ++ ys).toArray ++ Builtin.zeroCells z.cells (G - (s.n + n))).toList.toArray e) := rfl
    rw [hheap]
    refine hk _ _ hown rfl ⟨by simp [hw], fun k hk _ => by rw [Array.getElem?_push, if_neg (by rw [hw]; omega), hw]⟩ (.inr fun g hg => ?_) (fun hr => absurd hr hroom) fun _ => by rw [← hw]; exact ext_push _ _ (Nat.le_refl _)
    simp only [Sl.blk, Option.map_some, Option.some.injEq] at hg
    rw [← hg, hw]; exact Nat.le_refl _
theorem opT_app_room {P : Program} {t tx ty e : TypeId} {sz by_ : Nat} (hT : ElemT P t e sz by_) {s : Sl} {h : Heap} {xs ys : List Value} {x : Value} {n : Nat} {K : Sl → Heap → Prop}
    (ho : Own h sz s xs) (hx : SrcH P sz tx x n ys h) (hlen : (s.n + n) * by_ ≤ 140737488355328) (h63 : s.n + n ≤ 4611686018427387903)
    (hk : ∀ s' h', Own h' sz s' (xs ++ ys) → s'.n = s.n + n → Upd (fun k => s.blk = some k) h h' → (s'.blk = s.blk ∨ s'.from_ h.size) → (s.n + n ≤ s.c → s' = ⟨s.a, s.n + n, s.c⟩ ∧ h'.size = h.size) → K s' h') :
    OpT P (Builtin.append_ #[t, tx] ty #[.slice s.a s.n s.c, x]) h [.one .sl] K :=
  opT_app_full hT ho hx hlen h63 fun s' h' a b c d r _ => hk s' h' a b c d r
/-- What was read of the slice that is appended to is read still. -/
theorem own_prefix {h' : Heap} {sz : Nat} {s : Sl} {xs ys : List Value} {m c : Nat} (hl : xs.length = s.n * sz) (ho : Own h' sz ⟨s.a, m, c⟩ (xs ++ ys)) : RdS h' sz s xs := by
  refine ⟨hl, fun hp => ?_⟩
  obtain ⟨g, o, ha, hx⟩ := ho.rd.2 (by rw [List.length_append]; omega)
  exact ⟨g, o, ha, fun j hj => (hx j (by rw [List.length_append]; omega)).trans (List.getElem?_append_left hj)⟩
theorem app_old {P : Program} {t ty e : TypeId} {sz by_ : Nat} (hT : ElemT P t e sz by_) {s x : Sl} {h : Heap} {xs ys : List Value} {K : Sl → Heap → Prop}
    (ho : Own h sz s xs) (hx : RdS h sz x ys) (h1 : ∀ u ∈ ys, u.oneCell' = true) (hlen : (s.n + x.n) * by_ ≤ 140737488355328) (h63 : s.n + x.n ≤ 4611686018427387903)
    (hk : ∀ s' h', Own h' sz s' (xs ++ ys) → s'.n = s.n + x.n → Upd (fun k => s.blk = some k) h h' → (s'.blk = s.blk ∨ s'.from_ h.size) → RdS h' sz s xs → K s' h') : App P t ty s x h K :=
  opT_app_full hT ho (.slice hT.und hx h1 hT.pos) hlen h63 fun s' h' a b c d r q => hk s' h' a b c d (by
    by_cases hr : s.n + x.n ≤ s.c
    · obtain ⟨e, _⟩ := r hr
      subst e
      exact own_prefix ho.1 a
    · exact ho.rd.ext' (q hr))
theorem opT_app {P : Program} {t tx ty e : TypeId} {sz by_ : Nat} (hT : ElemT P t e sz by_) {s : Sl} {h : Heap} {xs ys : List Value} {x : Value} {n : Nat} {K : Sl → Heap → Prop}
    (ho : Own h sz s xs) (hx : SrcH P sz tx x n ys h) (hlen : (s.n + n) * by_ ≤ 140737488355328) (h63 : s.n + n ≤ 4611686018427387903)
    (hk : ∀ s' h', Own h' sz s' (xs ++ ys) → s'.n = s.n + n → Upd (fun k => s.blk = some k) h h' → (s'.blk = s.blk ∨ s'.from_ h.size) → K s' h') :
    OpT P (Builtin.append_ #[t, tx] ty #[.slice s.a s.n s.c, x]) h [.one .sl] K :=
  opT_app_room hT ho hx hlen h63 fun s' h' a b c d _ => hk s' h' a b c d
theorem app_room {P : Program} {t ty e : TypeId} {sz by_ : Nat} (hT : ElemT P t e sz by_) {s x : Sl} {h : Heap} {xs ys : List Value} {K : Sl → Heap → Prop}
    (ho : Own h sz s xs) (hx : RdS h sz x ys) (h1 : ∀ u ∈ ys, u.oneCell' = true) (hlen : (s.n + x.n) * by_ ≤ 140737488355328) (hroom : s.n + x.n ≤ s.c) (h63 : s.n + x.n ≤ 4611686018427387903)
    (hk : ∀ h', Own h' sz ⟨s.a, s.n + x.n, s.c⟩ (xs ++ ys) → Upd (fun k => s.blk = some k) h h' → h'.size = h.size → K ⟨s.a, s.n + x.n, s.c⟩ h') : App P t ty s x h K :=
  opT_app_room hT ho (.slice hT.und hx h1 hT.pos) hlen h63 fun s' h' a _ c _ r => by
    obtain ⟨rfl, e⟩ := r hroom
    exact hk h' a c e
theorem app {P : Program} {t ty e : TypeId} {sz by_ : Nat} (hT : ElemT P t e sz by_) {s x : Sl} {h : Heap} {xs ys : List Value} {K : Sl → Heap → Prop}
    (ho : Own h sz s xs) (hx : RdS h sz x ys) (h1 : ∀ u ∈ ys, u.oneCell' = true) (hlen : (s.n + x.n) * by_ ≤ 140737488355328) (h63 : s.n + x.n ≤ 4611686018427387903)
    (hk : ∀ s' h', Own h' sz s' (xs ++ ys) → s'.n = s.n + x.n → Upd (fun k => s.blk = some k) h h' → (s'.blk = s.blk ∨ s'.from_ h.size) → K s' h') : App P t ty s x h K :=
  opT_app hT ho (.slice hT.und hx h1 hT.pos) hlen h63 hk
end Go.Proofs.Ytegbnmaglkpkjaa
