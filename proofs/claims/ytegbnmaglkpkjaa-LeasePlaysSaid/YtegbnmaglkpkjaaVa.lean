/-
  A layer of my own over the guide's calculus of Code: typed shapes, and what one operation asks of a heap. The predicates here are plain Lean over the heap alone: the tape, the streams and the outside world are hidden.
-/
import Derived.Orders
import Derived.KernelRfl
namespace Go.Proofs.Ytegbnmaglkpkjaa
open Go

/-! ## The heap alone -/
abbrev Heap := Array Obj
def mkW (h : Heap) : World := { (default : World) with heap := h }
def cellH (h : Heap) (a : Addr) : Option Value := (mkW h).cell? a
def frozenH (h : Heap) (a : Addr) : Bool := (mkW h).frozen? a
def setH (h : Heap) (a : Addr) (v : Value) : Heap := ((mkW h).setCell a v).heap

theorem cell_eq (w : World) (a : Addr) : w.cell? a = cellH w.heap a := rfl
theorem frozen_eq (w : World) (a : Addr) : w.frozen? a = frozenH w.heap a := rfl
theorem set_eq (w : World) (a : Addr) (v : Value) : (w.setCell a v).heap = setH w.heap a v := rfl

/-- All but the heap and the count of draws is as it was. -/
structure Env (w w' : World) : Prop where
  os : w'.os = w.os
  tape : w'.tape = w.tape
  output : w'.output = w.output
theorem Env.refl (w : World) : Env w w := ⟨rfl, rfl, rfl⟩
theorem Env.trans {a b c : World} (h : Env a b) (k : Env b c) : Env a c := ⟨k.os.trans h.os, k.tape.trans h.tape, k.output.trans h.output⟩

/-- A computation of the model runs to an end from every world of this heap. -/
def RunsH {α : Type} (P : Program) (s : Sem α) (h : Heap) (K : α → Heap → Prop) : Prop :=
  ∀ w : World, w.heap = h → ∃ x w', s.run P w = .ok x w' ∧ Env w w' ∧ K x w'.heap
theorem RunsH.mono {α : Type} {P : Program} {s : Sem α} {h : Heap} {K K' : α → Heap → Prop} (hs : RunsH P s h K) (hk : ∀ x h, K x h → K' x h) : RunsH P s h K' :=
  fun w hw => let ⟨x, w', a, b, c⟩ := hs w hw; ⟨x, w', a, b, hk _ _ c⟩

/-- A call of a function, the heap alone in sight. -/
def CallsH (P : Program) (f : FuncId) (args : Array Value) (h : Heap) (R : Ending → Heap → Prop) : Prop :=
  ∀ w : World, w.heap = h → Calls P f args w fun e w' => Env w w' ∧ R e w'.heap
theorem CallsH.mono {P : Program} {f : FuncId} {args : Array Value} {h : Heap} {R R' : Ending → Heap → Prop} (hs : CallsH P f args h R) (hr : ∀ e h, R e h → R' e h) : CallsH P f args h R' :=
  fun w hw => (hs w hw).mono fun _ _ ⟨a, b⟩ => ⟨a, hr _ _ b⟩

/-! ## Shapes of values -/
structure Sl where
  a : Option Addr
  n : Nat
  c : Nat
@[reducible] def Sl.v (s : Sl) : Value := .slice s.a s.n s.c
inductive Kd where
  | int (k : IntKind) | bool | str | ptr | sl | map | val
@[reducible] def Kd.T : Kd → Type
  | .int _ => Int
  | .bool => Bool
  | .str => ByteArray
  | .ptr => Option Addr
  | .sl => Sl
  | .map => Option Nat
  | .val => Value
@[reducible] def Kd.mk : (k : Kd) → k.T → Value
  | .int k, x => .int k x
  | .bool, x => .bool x
  | .str, x => .string x
  | .ptr, x => .pointer x
  | .sl, x => .slice x.a x.n x.c
  | .map, x => .map x
  | .val, x => x
inductive Sh where
  | one (k : Kd)
  | agg (ks : List Kd)
  | raw
def KL : List Kd → Type
  | [] => Unit
  | k :: ks => k.T × KL ks
@[reducible] def Sh.T : Sh → Type
  | .one k => k.T
  | .agg ks => KL ks
  | .raw => Array Value
def KL.vals : (ks : List Kd) → KL ks → List Value
  | [], _ => []
  | k :: ks, x => k.mk x.1 :: KL.vals ks x.2
def Sh.mk : (s : Sh) → s.T → Value
  | .one k, x => k.mk x
  | .agg ks, x => .agg ⟨KL.vals ks x⟩
  | .raw, x => .agg x
/-- Curried functions of shapes' values. -/
@[reducible] def TH (T : Type) : List Sh → Type
  | [] => T
  | s :: ss => s.T → TH T ss
def HL : List Sh → Type
  | [] => Unit
  | s :: ss => s.T × HL ss
def TH.un {T : Type} : (ss : List Sh) → TH T ss → HL ss → T
  | [], t, _ => t
  | _ :: ss, f, x => TH.un ss (f x.1) x.2
def TH.cu {T : Type} : (ss : List Sh) → (HL ss → T) → TH T ss
  | [], f => f ()
  | _ :: ss, f => fun x => TH.cu ss fun y => f (x, y)
theorem TH.un_cu {T : Type} : ∀ (ss : List Sh) (f : HL ss → T) (x : HL ss), TH.un ss (TH.cu ss f) x = f x
  | [], _, () => rfl
  | _ :: ss, f, (x, y) => TH.un_cu ss (fun y => f (x, y)) y
def HL.vals : (ss : List Sh) → HL ss → List Value
  | [], _ => []
  | s :: ss, x => s.mk x.1 :: HL.vals ss x.2
/-- What a call hands back, of its results. -/
def retV : (ss : List Sh) → HL ss → Value
  | [], _ => .tuple #[]
  | [s], x => s.mk x.1
  | s :: t :: ss, x => .tuple ⟨HL.vals (s :: t :: ss) x⟩

/-! ### Reading a value by a shape -/
def Kd.get : (k : Kd) → Value → (k.T → Prop) → Prop
  | .int k, .int k' n, K => if k' = k then K n else False
  | .bool, .bool b, K => K b
  | .str, .string s, K => K s
  | .ptr, .pointer a, K => K a
  | .sl, .slice a n c, K => K ⟨a, n, c⟩
  | .map, .map m, K => K m
  | .val, v, K => K v
  | _, _, _ => False
theorem Kd.get_spec : ∀ (k : Kd) (v : Value) (K : k.T → Prop), k.get v K → ∃ x, v = k.mk x ∧ K x := by
  intro k v K h
  cases k <;> cases v <;> simp only [Kd.get] at h <;> try exact h.elim
  case int.int k k' n =>
    split at h
    · rename_i e; subst e; exact ⟨n, rfl, h⟩
    · exact h.elim
  all_goals exact ⟨_, rfl, h⟩
def KL.get : (ks : List Kd) → List Value → (KL ks → Prop) → Prop
  | [], [], K => K ()
  | k :: ks, v :: vs, K => k.get v fun x => KL.get ks vs fun y => K (x, y)
  | _, _, _ => False
theorem KL.get_spec : ∀ (ks : List Kd) (vs : List Value) (K : KL ks → Prop), KL.get ks vs K → ∃ x, vs = KL.vals ks x ∧ K x
  | [], [], _, h => ⟨(), rfl, h⟩
  | [], _ :: _, _, h => h.elim
  | _ :: _, [], _, h => h.elim
  | k :: ks, v :: vs, K, h => by
    obtain ⟨x, e1, h1⟩ := k.get_spec v _ h
    obtain ⟨y, e2, h2⟩ := KL.get_spec ks vs _ h1
    exact ⟨(x, y), by rw [e1, e2]; rfl, h2⟩
def Sh.get : (s : Sh) → Value → (s.T → Prop) → Prop
  | .one k, v, K => k.get v K
  | .agg ks, .agg cs, K => KL.get ks cs.toList K
  | .raw, .agg cs, K => K cs
  | _, _, _ => False
theorem Sh.get_spec (s : Sh) (v : Value) (K : s.T → Prop) (h : s.get v K) : ∃ x, v = s.mk x ∧ K x := by
  cases s with
  | one k => exact k.get_spec v K h
  | agg ks =>
    cases v <;> simp only [Sh.get] at h <;> try exact h.elim
    rename_i cs
    obtain ⟨x, e, h⟩ := KL.get_spec ks _ K h
    exact ⟨x, by simp [Sh.mk, ← e], h⟩
  | raw =>
    cases v <;> simp only [Sh.get] at h <;> try exact h.elim
    exact ⟨_, rfl, h⟩

/-! ### A type's shape -/
def kdV : Value → Kd
  | .int k _ => .int k
  | .bool _ => .bool
  | .string _ => .str
  | .pointer _ => .ptr
  | .slice .. => .sl
  | .map _ => .map
  | _ => .val
def aggD : Option TypeDesc → Bool
  | some (.struct _) => true
  | some (.array _ _) => true
  | _ => false
def shOf (P : Program) (t : TypeId) : Sh :=
  match P.underlying t with
  | none => .raw
  | some d => match P.info? t with
    | none => .raw
    | some i =>
      if aggD (some d) then
        match i.zero with
        | some (.agg cs) => if cs.size = i.size ∧ i.size ≤ 24 then .agg (cs.toList.map kdV) else .raw
        | _ => .raw
      else match i.zero with
        | some v => .one (kdV v)
        | none => .one .val
/-- A type's shapes, as a call's results. -/
def shsOf (P : Program) (t : TypeId) : List Sh :=
  match P.underlying t with
  | some (.tuple ts) => ts.toList.map (shOf P)
  | _ => [shOf P t]

/-! ## Computations that touch no memory, or make some alone -/
def semP {α : Type} (P : Program) : Sem α → Option α
  | .pure a => some a
  | .program k => semP P (k P)
  | .mark _ k => semP P k
  | _ => none
theorem semP_run {α : Type} {P : Program} {x : α} : ∀ (s : Sem α) (w : World), semP P s = some x → s.run P w = .ok x w := by
  intro s
  induction s with
  | pure a => intro w h; simp only [semP, Option.some.injEq] at h; subst h; rfl
  | program k ih => intro w h; exact ih P w h
  | mark m k ih => intro w h; exact ih w h
  | _ => intro w h; simp [semP] at h
def semA {α : Type} (P : Program) : Sem α → Heap → Option (α × Heap)
  | .pure a, h => some (a, h)
  | .program k, h => semA P (k P) h
  | .mark _ k, h => semA P k h
  | .new o k, h => semA P (k h.size) (h.push o)
  | _, _ => none
theorem semA_run {α : Type} {P : Program} {x : α} {h' : Heap} : ∀ (s : Sem α) (w : World), semA P s w.heap = some (x, h') → s.run P w = .ok x { w with heap := h' } := by
  intro s
  induction s with
  | pure a => intro w h; simp only [semA, Option.some.injEq, Prod.mk.injEq] at h; obtain ⟨rfl, rfl⟩ := h; rfl
  | program k ih => intro w h; exact ih P w h
  | mark m k ih => intro w h; exact ih w h
  | new o k ih =>
    intro w h
    exact ih w.heap.size { w with heap := w.heap.push o } h
  | _ => intro w h; simp [semA] at h

/-! ## What operations ask -/
/-- A pointer that isn't nil. -/
def Nn (a : Option Addr) (K : Addr → Prop) : Prop := ∃ x, a = some x ∧ K x
/-- A cell that holds a value of a kind. -/
def Ld (k : Kd) (h : Heap) (a : Addr) (K : k.T → Prop) : Prop := ∃ x : k.T, cellH h a = some (k.mk x) ∧ K x
/-- A cell that is written. -/
def St (h : Heap) (a : Addr) (v : Value) (K : Heap → Prop) : Prop := (cellH h a).isSome = true ∧ frozenH h a = false ∧ K (setH h a v)
def LdL (h : Heap) (a : Addr) : Nat → List Kd → (List Value → Prop) → Prop
  | _, [], K => K []
  | i, k :: ks, K => Ld k h (a.add i) fun x => LdL h a (i + 1) ks fun vs => K (k.mk x :: vs)
/-- Any operation of the model whose result has these shapes. -/
def OpT (P : Program) (s : Sem Value) (h : Heap) (ss : List Sh) (K : TH (Heap → Prop) ss) : Prop :=
  RunsH P s h fun v h' => ∃ x, v = retV ss x ∧ TH.un ss K x h'
def OpU (P : Program) (s : Sem Unit) (h : Heap) (K : Heap → Prop) : Prop := RunsH P s h fun _ h' => K h'
def one1 : Value → Bool
  | .agg _ => false
  | .tuple _ => false
  | _ => true
def StL (h : Heap) (a : Addr) : Nat → List Value → (Heap → Prop) → Prop
  | _, [], K => K h
  | i, v :: vs, K => if one1 v then St h (a.add i) v fun h' => StL h' a (i + 1) vs K else False
def StS (P : Program) (t : TypeId) (h : Heap) (a : Addr) (v : Value) (K : Heap → Prop) : Prop :=
  match P.info? t with
  | none => False
  | some i => if v.cells.size = i.size then StL h a 0 v.cells.toList K else False
/-- A call of a function that has a body. -/
def okF (P : Program) (f : FuncId) : Bool :=
  match P.funcs[f]? with
  | some fn => fn.body.isSome && !(fn.name == "runtime.NumGoroutine")
  | none => false
def CallR (P : Program) (f : FuncId) (args : List Value) (h : Heap) (ss : List Sh) (K : TH (Heap → Prop) ss) : Prop :=
  CallsH P f ⟨args⟩ h fun e h' => ∃ x, e = .returned (retV ss x) ∧ TH.un ss K x h'
/-- An element of a slice; of an array in memory. -/
def Ix (s : Sl) (i : Int) (size : Nat) (K : Addr → Prop) : Prop := ∃ a, s.a = some a ∧ 0 ≤ i ∧ i < s.n ∧ K (a.add (i.toNat * size))
def IxA (a : Addr) (n : Nat) (i : Int) (size : Nat) (K : Addr → Prop) : Prop := 0 ≤ i ∧ i < n ∧ K (a.add (i.toNat * size))
/-- A byte of a string. -/
def IxS (s : ByteArray) (i : Int) (K : Int → Prop) : Prop := ∃ b : UInt8, 0 ≤ i ∧ s[i.toNat]? = some b ∧ K b.toNat
def Cat (s t : ByteArray) (K : ByteArray → Prop) : Prop := s.size + t.size ≤ 9223372036854775807 ∧ K (s ++ t)
def Nz (b : Int) (K : Prop) : Prop := b ≠ 0 ∧ K
def Nneg (b : Int) (K : Prop) : Prop := 0 ≤ b ∧ K
end Go.Proofs.Ytegbnmaglkpkjaa
