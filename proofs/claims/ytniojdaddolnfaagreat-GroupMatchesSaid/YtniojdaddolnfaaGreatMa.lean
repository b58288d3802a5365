/-
  Several of the proof's texts in one: Va, Vb, Vc, Vd, Ve, Vf, Ra, End.
-/
import Derived.Orders
import Derived.KernelRfl
import Derived.Tactics
import Derived.Deep.LoopGhost
import Derived.Deep.AppendSrc
import Derived.Deep.Upon
import Derived.Laws.BytesString
import Derived.Laws.Slices
import Derived.Below
set_option linter.unusedVariables false
set_option linter.unusedSimpArgs false

/-
  A layer of my own over the guide's calculus of Code: typed shapes, and what one operation asks of a heap. The predicates here are plain Lean over the heap alone: the tape, the streams and the outside world are hidden.
-/
namespace Go.Proofs.YtniojdaddolnfaaGreat
open Go

/-! ## The heap alone -/
abbrev Heap := Array Obj
def mkW (h : Heap) : World := { (default : World) with heap := h }
def cellH (h : Heap) (a : Addr) : Option Value := (mkW h).cell? a
def frozenH (h : Heap) (a : Addr) : Bool := (mkW h).frozen? a
def setH (h : Heap) (a : Addr) (v : Value) : Heap := ((mkW h).setCell a v).heap

theorem cell_eq (w : World) (a : Addr) : w.cell? a = cellH w.heap a := rfl
theorem frozen_eq (w : World) (a : Addr) : w.frozen? a = frozenH w.heap a := rfl
theorem set_eq (w : World) (a : Addr) (v : Value) : (w.setCell a v).heap = setH w.heap a v := rfl

/-- All but the heap and the count of draws is as it was. -/
structure Env (w w' : World) : Prop where
  os : w'.os = w.os
  tape : w'.tape = w.tape
  output : w'.output = w.output
theorem Env.refl (w : World) : Env w w := ⟨rfl, rfl, rfl⟩
theorem Env.trans {a b c : World} (h : Env a b) (k : Env b c) : Env a c := ⟨k.os.trans h.os, k.tape.trans h.tape, k.output.trans h.output⟩

/-- A computation of the model runs to an end from every world of this heap. -/
def RunsH {α : Type} (P : Program) (s : Sem α) (h : Heap) (K : α → Heap → Prop) : Prop :=
  ∀ w : World, w.heap = h → ∃ x w', s.run P w = .ok x w' ∧ Env w w' ∧ K x w'.heap
theorem RunsH.mono {α : Type} {P : Program} {s : Sem α} {h : Heap} {K K' : α → Heap → Prop} (hs : RunsH P s h K) (hk : ∀ x h, K x h → K' x h) : RunsH P s h K' :=
  fun w hw => let ⟨x, w', a, b, c⟩ := hs w hw; ⟨x, w', a, b, hk _ _ c⟩

/-- A call of a function, the heap alone in sight. -/
def CallsH (P : Program) (f : FuncId) (args : Array Value) (h : Heap) (R : Ending → Heap → Prop) : Prop :=
  ∀ w : World, w.heap = h → Calls P f args w fun e w' => Env w w' ∧ R e w'.heap
theorem CallsH.mono {P : Program} {f : FuncId} {args : Array Value} {h : Heap} {R R' : Ending → Heap → Prop} (hs : CallsH P f args h R) (hr : ∀ e h, R e h → R' e h) : CallsH P f args h R' :=
  fun w hw => (hs w hw).mono fun _ _ ⟨a, b⟩ => ⟨a, hr _ _ b⟩

/-! ## Shapes of values -/
structure Sl where
  a : Option Addr
  n : Nat
  c : Nat
@[reducible] def Sl.v (s : Sl) : Value := .slice s.a s.n s.c
inductive Kd where
  | int (k : IntKind) | bool | str | ptr | sl | map | val
@[reducible] def Kd.T : Kd → Type
  | .int _ => Int
  | .bool => Bool
  | .str => ByteArray
  | .ptr => Option Addr
  | .sl => Sl
  | .map => Option Nat
  | .val => Value
@[reducible] def Kd.mk : (k : Kd) → k.T → Value
  | .int k, x => .int k x
  | .bool, x => .bool x
  | .str, x => .string x
  | .ptr, x => .pointer x
  | .sl, x => .slice x.a x.n x.c
  | .map, x => .map x
  | .val, x => x
inductive Sh where
  | one (k : Kd)
  | agg (ks : List Kd)
  | raw
def KL : List Kd → Type
  | [] => Unit
  | k :: ks => k.T × KL ks
@[reducible] def Sh.T : Sh → Type
  | .one k => k.T
  | .agg ks => KL ks
  | .raw => Array Value
def KL.vals : (ks : List Kd) → KL ks → List Value
  | [], _ => []
  | k :: ks, x => k.mk x.1 :: KL.vals ks x.2
def Sh.mk : (s : Sh) → s.T → Value
  | .one k, x => k.mk x
  | .agg ks, x => .agg ⟨KL.vals ks x⟩
  | .raw, x => .agg x
/-- Curried functions of shapes' values. -/
@[reducible] def TH (T : Type) : List Sh → Type
  | [] => T
  | s :: ss => s.T → TH T ss
def HL : List Sh → Type
  | [] => Unit
  | s :: ss => s.T × HL ss
def TH.un {T : Type} : (ss : List Sh) → TH T ss → HL ss → T
  | [], t, _ => t
  | _ :: ss, f, x => TH.un ss (f x.1) x.2
def TH.cu {T : Type} : (ss : List Sh) → (HL ss → T) → TH T ss
  | [], f => f ()
  | _ :: ss, f => fun x => TH.cu ss fun y => f (x, y)
theorem TH.un_cu {T : Type} : ∀ (ss : List Sh) (f : HL ss → T) (x : HL ss), TH.un ss (TH.cu ss f) x = f x
  | [], _, () => rfl
  | _ :: ss, f, (x, y) => TH.un_cu ss (fun y => f (x, y)) y
def HL.vals : (ss : List Sh) → HL ss → List Value
  | [], _ => []
  | s :: ss, x => s.mk x.1 :: HL.vals ss x.2
/-- What a call hands back, of its results. -/
def retV : (ss : List Sh) → HL ss → Value
  | [], _ => .tuple #[]
  | [s], x => s.mk x.1
  | s :: t :: ss, x => .tuple ⟨HL.vals (s :: t :: ss) x⟩

/-! ### Reading a value by a shape -/
def Kd.get : (k : Kd) → Value → (k.T → Prop) → Prop
  | .int k, .int k' n, K => if k' = k then K n else False
  | .bool, .bool b, K => K b
  | .str, .string s, K => K s
  | .ptr, .pointer a, K => K a
  | .sl, .slice a n c, K => K ⟨a, n, c⟩
  | .map, .map m, K => K m
  | .val, v, K => K v
  | _, _, _ => False
theorem Kd.get_spec : ∀ (k : Kd) (v : Value) (K : k.T → Prop), k.get v K → ∃ x, v = k.mk x ∧ K x := by
  intro k v K h
  cases k <;> cases v <;> simp only [Kd.get] at h <;> try exact h.elim
  case int.int k k' n =>
    split at h
    · rename_i e; subst e; exact ⟨n, rfl, h⟩
    · exact h.elim
  all_goals exact ⟨_, rfl, h⟩
def KL.get : (ks : List Kd) → List Value → (KL ks → Prop) → Prop
  | [], [], K => K ()
  | k :: ks, v :: vs, K => k.get v fun x => KL.get ks vs fun y => K (x, y)
  | _, _, _ => False
theorem KL.get_spec : ∀ (ks : List Kd) (vs : List Value) (K : KL ks → Prop), KL.get ks vs K → ∃ x, vs = KL.vals ks x ∧ K x
  | [], [], _, h => ⟨(), rfl, h⟩
  | [], _ :: _, _, h => h.elim
  | _ :: _, [], _, h => h.elim
  | k :: ks, v :: vs, K, h => by
    obtain ⟨x, e1, h1⟩ := k.get_spec v _ h
    obtain ⟨y, e2, h2⟩ := KL.get_spec ks vs _ h1
    exact ⟨(x, y), by rw [e1, e2]; rfl, h2⟩
def Sh.get : (s : Sh) → Value → (s.T → Prop) → Prop
  | .one k, v, K => k.get v K
  | .agg ks, .agg cs, K => KL.get ks cs.toList K
  | .raw, .agg cs, K => K cs
  | _, _, _ => False
theorem Sh.get_spec (s : Sh) (v : Value) (K : s.T → Prop) (h : s.get v K) : ∃ x, v = s.mk x ∧ K x := by
  cases s with
  | one k => exact k.get_spec v K h
  | agg ks =>
    cases v <;> simp only [Sh.get] at h <;> try exact h.elim
    rename_i cs
    obtain ⟨x, e, h⟩ := KL.get_spec ks _ K h
    exact ⟨x, by simp [Sh.mk, ← e], h⟩
  | raw =>
    cases v <;> simp only [Sh.get] at h <;> try exact h.elim
    exact ⟨_, rfl, h⟩

/-! ### A type's shape -/
def kdV : Value → Kd
  | .int k _ => .int k
  | .bool _ => .bool
  | .string _ => .str
  | .pointer _ => .ptr
  | .slice .. => .sl
  | .map _ => .map
  | _ => .val
def aggD : Option TypeDesc → Bool
  | some (.struct _) => true
  | some (.array _ _) => true
  | _ => false
def shOf (P : Program) (t : TypeId) : Sh :=
  match P.underlying t with
  | none => .raw
  | some d => match P.info? t with
    | none => .raw
    | some i =>
      if aggD (some d) then
        match i.zero with
        | some (.agg cs) => if cs.size = i.size ∧ i.size ≤ 24 then .agg (cs.toList.map kdV) else .raw
        | _ => .raw
      else match i.zero with
        | some v => .one (kdV v)
        | none => .one .val
/-- A type's shapes, as a call's results. -/
def shsOf (P : Program) (t : TypeId) : List Sh :=
  match P.underlying t with
  | some (.tuple ts) => ts.toList.map (shOf P)
  | _ => [shOf P t]

/-! ## Computations that touch no memory, or make some alone -/
def semP {α : Type} (P : Program) : Sem α → Option α
  | .pure a => some a
  | .program k => semP P (k P)
  | .mark _ k => semP P k
  | _ => none
theorem semP_run {α : Type} {P : Program} {x : α} : ∀ (s : Sem α) (w : World), semP P s = some x → s.run P w = .ok x w := by
  intro s
  induction s with
  | pure a => intro w h; simp only [semP, Option.some.injEq] at h; subst h; rfl
  | program k ih => intro w h; exact ih P w h
  | mark m k ih => intro w h; exact ih w h
  | _ => intro w h; simp [semP] at h
def semA {α : Type} (P : Program) : Sem α → Heap → Option (α × Heap)
  | .pure a, h => some (a, h)
  | .program k, h => semA P (k P) h
  | .mark _ k, h => semA P k h
  | .new o k, h => semA P (k h.size) (h.push o)
  | _, _ => none
theorem semA_run {α : Type} {P : Program} {x : α} {h' : Heap} : ∀ (s : Sem α) (w : World), semA P s w.heap = some (x, h') → s.run P w = .ok x { w with heap := h' } := by
  intro s
  induction s with
  | pure a => intro w h; simp only [semA, Option.some.injEq, Prod.mk.injEq] at h; obtain ⟨rfl, rfl⟩ := h; rfl
  | program k ih => intro w h; exact ih P w h
  | mark m k ih => intro w h; exact ih w h
  | new o k ih =>
    intro w h
    exact ih w.heap.size { w with heap := w.heap.push o } h
  | _ => intro w h; simp [semA] at h

/-! ## What operations ask -/
/-- A pointer that isn't nil. -/
def Nn (a : Option Addr) (K : Addr → Prop) : Prop := ∃ x, a = some x ∧ K x
/-- A cell that holds a value of a kind. -/
def Ld (k : Kd) (h : Heap) (a : Addr) (K : k.T → Prop) : Prop := ∃ x : k.T, cellH h a = some (k.mk x) ∧ K x
/-- A cell that is written. -/
def St (h : Heap) (a : Addr) (v : Value) (K : Heap → Prop) : Prop := (cellH h a).isSome = true ∧ frozenH h a = false ∧ K (setH h a v)
def LdL (h : Heap) (a : Addr) : Nat → List Kd → (List Value → Prop) → Prop
  | _, [], K => K []
  | i, k :: ks, K => Ld k h (a.add i) fun x => LdL h a (i + 1) ks fun vs => K (k.mk x :: vs)
/-- Any operation of the model whose result has these shapes. -/
def OpT (P : Program) (s : Sem Value) (h : Heap) (ss : List Sh) (K : TH (Heap → Prop) ss) : Prop :=
  RunsH P s h fun v h' => ∃ x, v = retV ss x ∧ TH.un ss K x h'
def OpU (P : Program) (s : Sem Unit) (h : Heap) (K : Heap → Prop) : Prop := RunsH P s h fun _ h' => K h'
def one1 : Value → Bool
  | .agg _ => false
  | .tuple _ => false
  | _ => true
def StL (h : Heap) (a : Addr) : Nat → List Value → (Heap → Prop) → Prop
  | _, [], K => K h
  | i, v :: vs, K => if one1 v then St h (a.add i) v fun h' => StL h' a (i + 1) vs K else False
def StS (P : Program) (t : TypeId) (h : Heap) (a : Addr) (v : Value) (K : Heap → Prop) : Prop :=
  match P.info? t with
  | none => False
  | some i => if v.cells.size = i.size then StL h a 0 v.cells.toList K else False
/-- A call of a function that has a body. -/
def okF (P : Program) (f : FuncId) : Bool :=
  match P.funcs[f]? with
  | some fn => fn.body.isSome && !(fn.name == "runtime.NumGoroutine")
  | none => false
def CallR (P : Program) (f : FuncId) (args : List Value) (h : Heap) (ss : List Sh) (K : TH (Heap → Prop) ss) : Prop :=
  CallsH P f ⟨args⟩ h fun e h' => ∃ x, e = .returned (retV ss x) ∧ TH.un ss K x h'
/-- An element of a slice; of an array in memory. -/
def Ix (s : Sl) (i : Int) (size : Nat) (K : Addr → Prop) : Prop := ∃ a, s.a = some a ∧ 0 ≤ i ∧ i < s.n ∧ K (a.add (i.toNat * size))
def IxA (a : Addr) (n : Nat) (i : Int) (size : Nat) (K : Addr → Prop) : Prop := 0 ≤ i ∧ i < n ∧ K (a.add (i.toNat * size))
/-- A byte of a string. -/
def IxS (s : ByteArray) (i : Int) (K : Int → Prop) : Prop := ∃ b : UInt8, 0 ≤ i ∧ s[i.toNat]? = some b ∧ K b.toNat
def Cat (s t : ByteArray) (K : ByteArray → Prop) : Prop := s.size + t.size ≤ 9223372036854775807 ∧ K (s ++ t)
def Nz (b : Int) (K : Prop) : Prop := b ≠ 0 ∧ K
def Nneg (b : Int) (K : Prop) : Prop := 0 ≤ b ∧ K
end Go.Proofs.YtniojdaddolnfaaGreat

/-
  One operation as a predicate over the heap, and that the model does what it says; regions in the text's order.
-/
namespace Go.Proofs.YtniojdaddolnfaaGreat
open Go

def evS (σ : Nat → Value) : Operand → Value
  | .tmp t => σ t
  | .const v => v
  | .global g => .pointer (some ⟨g, 0, none⟩)
  | .func f => .func (.func f) #[] #[]
def up (σ : Nat → Value) (d : Nat) (v : Value) : Nat → Value := fun t => cond (Nat.beq t d) v (σ t)
def putS (σ : Nat → Value) : Option Tmp → Value → Nat → Value
  | some d, v => up σ d v
  | none, _ => σ
def pickV (t : Bool) (x y : Value) : Value :=
  match x, y with
  | .bool a, .bool b => .bool (cond t a b)
  | x, y => cond t x y
theorem pickV_eq (t : Bool) (x y : Value) : pickV t x y = cond t x y := by
  unfold pickV
  split
  · cases t <;> rfl
  · rfl
abbrev Kont := (Nat → Value) → Heap → Prop

/-- A computation of the model that answers one value, whatever is drawn, and leaves the heap alone. -/
def OpV (P : Program) (s : Sem Value) (h : Heap) (ss : List Sh) (K : TH Prop ss) : Prop :=
  ∃ x, (∀ w : World, w.heap = h → ∃ w', s.run P w = .ok (retV ss x) w' ∧ Env w w' ∧ w'.heap = h) ∧ TH.un ss K x
/-- The same, whatever the heap. -/
def OpP (P : Program) (s : Sem Value) (ss : List Sh) (K : TH Prop ss) : Prop :=
  ∃ x, (∀ w : World, s.run P w = .ok (retV ss x) w) ∧ TH.un ss K x
/-- A call of a function of the model's own table. -/
def ExtR (P : Program) (f : FuncId) (args : Array Value) (h : Heap) (ss : List Sh) (K : TH (Heap → Prop) ss) : Prop :=
  RunsH P (callFunc f args) h fun nx h' => ∃ x, nx = .value (retV ss x) ∧ TH.un ss K x h'

/-- A variable of a type that is read. -/
def LdS (P : Program) (t : TypeId) (h : Heap) (a : Addr) (K : Value → Prop) : Prop :=
  match shOf P t with
  | .one k => Ld k h a fun x => K (k.mk x)
  | .agg ks => LdL h a 0 ks fun vs => K (.agg ⟨vs⟩)
  | .raw => OpV P (Instr.loadAt t (.pointer (some a))) h [.raw] fun cs => K (.agg cs)

section
variable (P : Program)
def genP (o : Oper) (σ : Nat → Value) (K : Value → Prop) : Prop :=
  match semP P (execOp (evS σ) o) with
  | some (.value v) => K v
  | _ => False
def genA (o : Oper) (σ : Nat → Value) (h : Heap) (K : Value → Heap → Prop) : Prop :=
  match semA P (execOp (evS σ) o) h with
  | some (.value v, h') => K v h'
  | _ => False
def tT (ss : List Sh) (K : Value → Heap → Prop) : TH (Heap → Prop) ss := TH.cu ss fun x => K (retV ss x)
def tP (ss : List Sh) (K : Value → Prop) : TH Prop ss := TH.cu ss fun x => K (retV ss x)

def isPtr : Option TypeDesc → Bool
  | some (.pointer _) => true
  | _ => false
def isSlc : Option TypeDesc → Bool
  | some (.slice _) => true
  | _ => false
def isMap : Option TypeDesc → Bool
  | some (.map _ _) => true
  | _ => false
def isStr : Option TypeDesc → Bool
  | some .string => true
  | _ => false
def basicT : Option TypeDesc → Bool
  | some (.int _) => true
  | some .string => true
  | some .bool => true
  | _ => false
def neg? (op : BinOp) (b : Bool) : Bool :=
  match op with
  | .neq => !b
  | _ => b
/-- '==', '!='. -/
def eqW (o : Oper) (op : BinOp) (t : TypeId) (x y : Operand) (σ : Nat → Value) (h : Heap) (K : Value → Prop) : Prop :=
  match y with
  | .const (.pointer none) => match evS σ x with
    | .pointer a => if isPtr (P.underlying t) then K (.bool (neg? op a.isNone)) else False
    | _ => False
  | .const (.slice none _ _) => match evS σ x with
    | .slice a _ _ => if isSlc (P.underlying t) then K (.bool (neg? op a.isNone)) else False
    | _ => False
  | .const (.map none) => match evS σ x with
    | .map a => if isMap (P.underlying t) then K (.bool (neg? op a.isNone)) else False
    | _ => False
  | y => if basicT (P.underlying t) then genP P o σ K
    else OpV P (do eqGuard op t x y (evS σ x) (evS σ y); binOp op t (evS σ x) (evS σ y)) h [.one .bool] (fun b => K (.bool b))
def shiftV (op : BinOp) (k : IntKind) (m n : Int) : Int :=
  match op with
  | .shl => k.wrap (m * 2 ^ (min n.toNat k.bits))
  | _ => m.fdiv (2 ^ (min n.toNat k.bits))
def divV (op : BinOp) (k : IntKind) (m n : Int) : Int :=
  match op with
  | .quo => k.wrap (m.tdiv n)
  | _ => m.tmod n
def binW (o : Oper) (op : BinOp) (t : TypeId) (x y : Operand) (σ : Nat → Value) (h : Heap) (K : Value → Prop) : Prop :=
  match op with
  | .eql => eqW P o .eql t x y σ h K
  | .neq => eqW P o .neq t x y σ h K
  | .quo => match evS σ x, evS σ y with
    | .int k m, .int k' n => if k = k' then Nz n (K (.int k (divV .quo k m n))) else False
    | _, _ => False
  | .rem => match evS σ x, evS σ y with
    | .int k m, .int k' n => if k = k' then Nz n (K (.int k (divV .rem k m n))) else False
    | _, _ => False
  | .shl => match evS σ x, evS σ y with
    | .int k m, .int _ n => Nneg n (K (.int k (shiftV .shl k m n)))
    | _, _ => False
  | .shr => match evS σ x, evS σ y with
    | .int k m, .int _ n => Nneg n (K (.int k (shiftV .shr k m n)))
    | _, _ => False
  | .add => match evS σ x with
    | .string s => match evS σ y with
      | .string t => Cat s t fun r => K (.string r)
      | _ => False
    | _ => genP P o σ K
  | _ => genP P o σ K
def idxW (t : TypeId) (x i : Value) (K : Value → Prop) : Prop :=
  match P.underlying t with
  | some (.slice e) => match P.info? e with
    | some j => match x with
      | .slice a n c => match i with
        | .int _ i => Ix ⟨a, n, c⟩ i j.size fun a' => K (.pointer (some a'))
        | _ => False
      | _ => False
    | none => False
  | some (.array n e) => match P.info? e with
    | some j => match x with
      | .pointer (some a) => match i with
        | .int _ i => IxA a n i j.size fun a' => K (.pointer (some a'))
        | _ => False
      | _ => False
    | none => False
  | _ => False
def indexW (o : Oper) (t : TypeId) (x i : Value) (K : Value → Prop) : Prop :=
  match P.underlying t with
  | some .string => match x with
    | .string s => match i with
      | .int _ i => IxS s i fun n => K (.int .u8 n)
      | _ => False
    | _ => False
  | _ => OpP P (Instr.index t x i) (shsOf P o.type) (tP (shsOf P o.type) K)
def convW (o : Oper) (src dst : TypeId) (x : Value) (σ : Nat → Value) (h : Heap) (K : Value → Heap → Prop) : Prop :=
  if isSlc (P.underlying dst) then OpT P (convert src dst x) h (shsOf P o.type) (tT (shsOf P o.type) K)
  else if isSlc (P.underlying src) && isStr (P.underlying dst) then OpV P (convert src dst x) h (shsOf P o.type) (tP (shsOf P o.type) fun v => K v h)
  else genP P o σ fun v => K v h
def bltW (o : Oper) (b : Builtin) (c : Call) (σ : Nat → Value) (h : Heap) (K : Value → Heap → Prop) : Prop :=
  match b with
  | .len => if isMap ((c.argTypes[0]?).bind P.underlying) then OpV P (Builtin.len_ c.argTypes o.type (c.args.map (evS σ))) h [.one (.int .i64)] (fun n => K (.int .i64 n) h)
    else genP P o σ fun v => K v h
  | .cap => genP P o σ fun v => K v h
  | .min => genP P o σ fun v => K v h
  | .max => genP P o σ fun v => K v h
  | .append => OpT P (Builtin.append_ c.argTypes o.type (c.args.map (evS σ))) h (shsOf P o.type) (tT (shsOf P o.type) K)
  | .copy => OpT P (Builtin.copy_ c.argTypes o.type (c.args.map (evS σ))) h [.one (.int .i64)] (tT [.one (.int .i64)] K)
  | .clear => OpT P (Builtin.clear_ c.argTypes o.type (c.args.map (evS σ))) h [] (tT [] K)
  | .delete => OpT P (Builtin.delete_ c.argTypes o.type (c.args.map (evS σ))) h [] (tT [] K)
  | _ => False
/-- The method that an interface's value has by this name. -/
def mthW (x : Value) (m : String) : Option (FuncId × Value) :=
  match x with
  | .iface t v => semP P (method (P.types.size + Made.depth) t v m)
  | _ => none
/-- A call through an interface. -/
def Invk (x : Value) (m : String) (args : List Value) (h : Heap) (ss : List Sh) (R : TH (Heap → Prop) ss) : Prop :=
  match mthW P x m with
  | some (g, rv) => okF P g = true ∧ CallR P g (rv :: args) h ss R
  | none => False
def callW (o : Oper) (c : Call) (σ : Nat → Value) (h : Heap) (K : Value → Heap → Prop) : Prop :=
  match c.callee with
  | .builtin b => bltW P o b c σ h K
  | .value f => match evS σ f with
    | .func (.func g) first cap => cond (okF P g) (CallR P g (first ++ c.args.map (evS σ) ++ cap).toList h (shsOf P o.type) (tT (shsOf P o.type) K))
        (ExtR P g (first ++ c.args.map (evS σ) ++ cap) h (shsOf P o.type) (tT (shsOf P o.type) K))
    | _ => False
  | .invoke r m => Invk P (evS σ r) m (c.args.map (evS σ)).toList h (shsOf P o.type) (tT (shsOf P o.type) K)
/-- A value that mustn't be nil. -/
def NnI (x : Value) (K : Value → Prop) : Prop :=
  match x with
  | .pointer a => Nn a fun a' => K (.pointer (some a'))
  | .iface t v => K (.iface t v)
  | .func (.func f) a b => K (.func (.func f) a b)
  | _ => False
/-- What an operation asks of slots and heap, and what it hands on: its value, and the heap behind it. -/
def opW (o : Oper) (σ : Nat → Value) (h : Heap) (K : Value → Heap → Prop) : Prop :=
  match o.op with
  | .move x => K (evS σ x) h
  | .assign x => K (evS σ x) h
  | .pick c a b => match evS σ c with
    | .bool t => K (pickV t (evS σ a) (evS σ b)) h
    | _ => False
  | .load t x => match evS σ x with
    | .pointer (some a) => LdS P t h a fun v => K v h
    | _ => False
  | .store t x v => match evS σ x with
    | .pointer (some a) => StS P t h a (evS σ v) fun h' => K undef h'
    | _ => False
  | .nilCheck x => NnI (evS σ x) fun v => K v h
  | .binOp op t x y _ => binW P o op t x y σ h fun v => K v h
  | .convert src dst x => convW P o src dst (evS σ x) σ h K
  | .indexAddr t x i => idxW P t (evS σ x) (evS σ i) fun v => K v h
  | .index t x i => indexW P o t (evS σ x) (evS σ i) fun v => K v h
  | .slice t x lo hi mx => OpP P (Instr.sliceAt t (evS σ x) (lo.map (evS σ)) (hi.map (evS σ)) (mx.map (evS σ))) (shsOf P o.type) (tP (shsOf P o.type) fun v => K v h)
  | .call c => callW P o c σ h K
  | .lookup t x i ok => OpV P (Instr.lookup t (evS σ x) (evS σ i) ok) h (shsOf P o.type) (tP (shsOf P o.type) fun v => K v h)
  | .mapUpdate t m k x => OpU P (Instr.mapUpdate t (evS σ m) (evS σ k) (evS σ x)) h fun h' => K undef h'
  | .insert t m k x => OpU P (Instr.mapUpdate t (evS σ m) (evS σ k) (evS σ x)) h fun h' => K undef h'
  | .makeSlice t l c => OpT P (Instr.makeSlice t (evS σ l) (evS σ c)) h [.one .sl] (tT [.one .sl] K)
  | .makeMap t r => OpT P (Instr.makeMap t (r.map (evS σ))) h [.one .map] (tT [.one .map] K)
  | .range t x => OpT P (Instr.range t (evS σ x)) h [.one .ptr] (tT [.one .ptr] K)
  | .next it s => OpT P (Instr.next (evS σ it) s o.type) h (shsOf P o.type) (tT (shsOf P o.type) K)
  | .typeAssert x t u ok => OpV P (Instr.typeAssert (evS σ x) t u ok) h (shsOf P o.type) (tP (shsOf P o.type) fun v => K v h)
  | .alloc _ => genA P o σ h K
  | .box _ _ => genA P o σ h K
  | .buildSlice _ _ _ => genA P o σ h K
  | .unOp _ _ _ => genP P o σ fun v => K v h
  | .fieldAddr _ _ _ => genP P o σ fun v => K v h
  | .field _ _ _ => genP P o σ fun v => K v h
  | .extract _ _ => genP P o σ fun v => K v h
  | .build _ _ => genP P o σ fun v => K v h
  | .makeFunc _ _ _ => genP P o σ fun v => K v h
  | .makeInterface _ _ => genP P o σ fun v => K v h
  | _ => False

/-! ## The model does so -/
/-- What an operation's run comes to. -/
def Done (K : Value → Heap → Prop) (w₀ : World) : Result Next → Prop
  | .ok (.value v) w' => Env w₀ w' ∧ K v w'.heap
  | .ok .skip w' => Env w₀ w' ∧ K undef w'.heap
  | .ok (.enter f args) w' => Env w₀ w' ∧ CallsH P f args w'.heap fun e h' => ∃ v, e = .returned v ∧ K v h'
  | _ => False
/-- The run of an operation that answers a value and changes nothing. -/
def Ans (o : Oper) (σ : Nat → Value) (h : Heap) (v : Value) : Prop :=
  ∀ w : World, w.heap = h → ∃ w', (execOp (evS σ) o).run P w = .ok (.value v) w' ∧ Env w w' ∧ w'.heap = h

theorem run_map_value (s : Sem Value) (w : World) : (do let v ← s; pure (Next.value v) : Sem Next).run P w =
    match s.run P w with
    | .ok v w' => .ok (.value v) w'
    | .halt x w' => .halt x w' := by
  rw [Sem.run_bind]
  cases s.run P w <;> rfl
theorem run_map_skip (s : Sem Unit) (w : World) : (do s; pure Next.skip : Sem Next).run P w =
    match s.run P w with
    | .ok _ w' => .ok .skip w'
    | .halt x w' => .halt x w' := by
  rw [Sem.run_bind]
  cases s.run P w <;> rfl

theorem tT_un (ss : List Sh) (K : Value → Heap → Prop) (x : HL ss) : TH.un ss (tT ss K) x = K (retV ss x) := TH.un_cu ss _ x
theorem tP_un (ss : List Sh) (K : Value → Prop) (x : HL ss) : TH.un ss (tP ss K) x = K (retV ss x) := TH.un_cu ss _ x

variable {P}
theorem genP_ans {o : Oper} {σ : Nat → Value} {K : Value → Prop} (hg : genP P o σ K) : ∃ v, K v ∧ ∀ h, Ans P o σ h v := by
  unfold genP at hg
  split at hg
  · rename_i v e
    exact ⟨v, hg, fun h w hw => ⟨w, semP_run _ w e, Env.refl w, hw⟩⟩
  · exact hg.elim
theorem genA_done {o : Oper} {σ : Nat → Value} {h : Heap} {K : Value → Heap → Prop} (hg : genA P o σ h K) (w : World) (hw : w.heap = h) : Done P K w ((execOp (evS σ) o).run P w) := by
  subst hw
  unfold genA at hg
  split at hg
  · rename_i v h' e
    rw [semA_run _ w e]
    exact ⟨⟨rfl, rfl, rfl⟩, hg⟩
  · exact hg.elim
theorem Ans.done {o : Oper} {σ : Nat → Value} {h : Heap} {v : Value} {K : Value → Heap → Prop} (ha : Ans P o σ h v) (hk : K v h) (w : World) (hw : w.heap = h) : Done P K w ((execOp (evS σ) o).run P w) := by
  obtain ⟨w', e, he, e2⟩ := ha w hw
  rw [e]
  exact ⟨he, by rw [e2]; exact hk⟩
theorem ans_of {o : Oper} {σ : Nat → Value} {h : Heap} {s : Sem Value} (he : execOp (evS σ) o = (do let v ← s; pure (Next.value v))) {v : Value}
    (hs : ∀ w : World, w.heap = h → ∃ w', s.run P w = .ok v w' ∧ Env w w' ∧ w'.heap = h) : Ans P o σ h v := by
  intro w hw
  obtain ⟨w', e, he2, e2⟩ := hs w hw
  exact ⟨w', by rw [he, run_map_value, e], he2, e2⟩
theorem ans_pure {o : Oper} {σ : Nat → Value} {v : Value} (h : Heap) (he : execOp (evS σ) o = pure (Next.value v)) : Ans P o σ h v :=
  fun w hw => ⟨w, by rw [he]; rfl, Env.refl w, hw⟩
theorem OpV.ans {o : Oper} {σ : Nat → Value} {h : Heap} {s : Sem Value} {ss : List Sh} {K : Value → Prop} (he : execOp (evS σ) o = (do let v ← s; pure (Next.value v)))
    (hv : OpV P s h ss (tP ss K)) : ∃ v, K v ∧ Ans P o σ h v := by
  obtain ⟨x, hr, hk⟩ := hv
  rw [tP_un] at hk
  exact ⟨_, hk, ans_of he hr⟩
theorem OpP.ans {o : Oper} {σ : Nat → Value} {s : Sem Value} {ss : List Sh} {K : Value → Prop} (he : execOp (evS σ) o = (do let v ← s; pure (Next.value v)))
    (hv : OpP P s ss (tP ss K)) : ∃ v, K v ∧ ∀ h, Ans P o σ h v := by
  obtain ⟨x, hr, hk⟩ := hv
  rw [tP_un] at hk
  exact ⟨_, hk, fun h => ans_of he fun w hw => ⟨w, hr w, Env.refl w, hw⟩⟩
theorem OpT.done {o : Oper} {σ : Nat → Value} {h : Heap} {s : Sem Value} {ss : List Sh} {K : Value → Heap → Prop} (he : execOp (evS σ) o = (do let v ← s; pure (Next.value v)))
    (hv : OpT P s h ss (tT ss K)) (w : World) (hw : w.heap = h) : Done P K w ((execOp (evS σ) o).run P w) := by
  obtain ⟨v, w', hr, hE, x, rfl, hk⟩ := hv w hw
  rw [tT_un] at hk
  rw [he, run_map_value, hr]
  exact ⟨hE, hk⟩
theorem OpU.done {o : Oper} {σ : Nat → Value} {h : Heap} {s : Sem Unit} {K : Value → Heap → Prop} (he : execOp (evS σ) o = (do s; pure Next.skip))
    (hv : OpU P s h fun h' => K undef h') (w : World) (hw : w.heap = h) : Done P K w ((execOp (evS σ) o).run P w) := by
  obtain ⟨v, w', hr, hE, hk⟩ := hv w hw
  rw [he, run_map_skip, hr]
  exact ⟨hE, hk⟩

/-! ### Loads and stores -/
theorem LdL_run {h : Heap} {a : Addr} : ∀ (ks : List Kd) (i : Nat) (K : List Value → Prop), LdL h a i ks K →
    ∃ vs, K vs ∧ ∀ (w : World) (acc : Array Value), w.heap = h → (loadCellsFrom a i ks.length acc).run P w = .ok (acc ++ vs.toArray) w
  | [], i, K, hK => ⟨[], hK, fun w acc _ => by simp [loadCellsFrom]⟩
  | k :: ks, i, K, ⟨x, hx, hr⟩ => by
    obtain ⟨vs, hv, hrun⟩ := LdL_run ks (i + 1) _ hr
    refine ⟨k.mk x :: vs, hv, fun w acc hw => ?_⟩
    have hc : w.cell? (a.add i) = some (k.mk x) := by rw [cell_eq, hw]; exact hx
    have hl : ∀ (f : Value → Sem (Array Value)), (load (a.add i) >>= f).run P w = (f (k.mk x)).run P w := fun f => by
      show (Sem.load .plain (a.add i) _).run P w = _
      simp only [Sem.run, hc]
      rfl
    simp only [List.length_cons, loadCellsFrom]
    rw [hl, hrun w _ hw]
    simp
theorem run_isAgg {t : TypeId} {d : TypeDesc} (hd : P.underlying t = some d) (w : World) : (isAgg t).run P w = .ok (aggD (some d)) w := by
  unfold isAgg
  rw [Sem.run_bind, run_underlying hd]
  cases d <;> rfl
theorem LdS_run {t : TypeId} {h : Heap} {a : Addr} {K : Value → Prop} (hl : LdS P t h a K) :
    ∃ v, K v ∧ ∀ w : World, w.heap = h → ∃ w', (Instr.loadAt t (.pointer (some a))).run P w = .ok v w' ∧ Env w w' ∧ w'.heap = h := by
  unfold LdS at hl
  have hsz : ∀ i, P.info? t = some i → ∀ w, (sizeOf t).run P w = .ok i.size w := fun i hi w => by
    unfold sizeOf; rw [Sem.run_bind, show (typeInfo t).run P w = .ok i w by simp [typeInfo, hi, program, Sem.run_bind, Sem.run]]; rfl
  split at hl
  · rename_i k hk
    obtain ⟨x, hx, hK⟩ := hl
    refine ⟨_, hK, fun w hw => ⟨w, ?_, Env.refl w, hw⟩⟩
    unfold shOf at hk
    split at hk
    · cases hk
    · rename_i d hd
      split at hk
      · cases hk
      · rename_i i hi
        split at hk
        · split at hk
          · split at hk <;> cases hk
          · cases hk
        · rename_i hag
          have hc : w.cell? a = some (k.mk x) := by rw [cell_eq, hw]; exact hx
          simp only [Instr.loadAt, Instr.sureAddr, Sem.run_bind, Sem.run_pure, Result.andThen_ok, loadVar, run_isAgg hd]
          rw [if_neg (by simpa using hag)]
          show (Sem.load .plain a _).run P w = _
          simp only [Sem.run, hc]
  · rename_i ks hk
    obtain ⟨vs, hv, hrun⟩ := LdL_run (P := P) ks 0 _ hl
    refine ⟨_, hv, fun w hw => ⟨w, ?_, Env.refl w, hw⟩⟩
    unfold shOf at hk
    split at hk
    · cases hk
    · rename_i d hd
      split at hk
      · cases hk
      · rename_i i hi
        split at hk
        · rename_i hag
          split at hk
          · rename_i cs hz
            split at hk
            · rename_i hsize
              injection hk with hk
              have hlen : ks.length = i.size := by rw [← hk]; simp [hsize.1]
              simp only [Instr.loadAt, Instr.sureAddr, Sem.run_bind, Sem.run_pure, Result.andThen_ok, loadVar, run_isAgg hd]
              rw [if_pos (by simpa using hag)]
              simp only [Sem.run_bind, hsz i hi, Result.andThen_ok, loadCells, ← hlen, hrun w #[] hw]
              simp
            · cases hk
          · cases hk
        · split at hk <;> cases hk
  · obtain ⟨x, hr, hK⟩ := hl
    exact ⟨_, hK, hr⟩
theorem StL_run {a : Addr} : ∀ (vs : List Value) (i : Nat) (h : Heap) (K : Heap → Prop), StL h a i vs K →
    ∀ w : World, w.heap = h → ∃ w', (storeCells a vs i).run P w = .ok () w' ∧ Env w w' ∧ K w'.heap
  | [], i, h, K, hK, w, hw => ⟨w, rfl, Env.refl w, by rw [hw]; exact hK⟩
  | v :: vs, i, h, K, hK, w, hw => by
    unfold StL at hK
    split at hK
    · rename_i h1
      obtain ⟨hc, hf, hr⟩ := hK
      obtain ⟨w', hrun, hE, hk⟩ := StL_run vs (i + 1) _ K hr (w.setCell (a.add i) v) (by rw [set_eq, hw])
      refine ⟨w', ?_, Env.trans (b := w.setCell (a.add i) v) ⟨rfl, rfl, rfl⟩ hE, hk⟩
      have hc' : (w.cell? (a.add i)).isSome = true := by rw [cell_eq, hw]; exact hc
      have hf' : w.frozen? (a.add i) = false := by rw [frozen_eq, hw]; exact hf
      obtain ⟨u, hu⟩ := Option.isSome_iff_exists.1 hc'
      have hst : (store (a.add i) v).run P w = .ok () (w.setCell (a.add i) v) := by
        show (Sem.store .plain (a.add i) v _).run P w = _
        cases v <;> first | (simp [one1] at h1; done) | simp [Sem.run, hu, hf']
      simp only [storeCells, Sem.run_bind, hst, Result.andThen_ok]
      exact hrun
    · exact hK.elim
theorem StS_run {t : TypeId} {h : Heap} {a : Addr} {v : Value} {K : Heap → Prop} (hs : StS P t h a v K) (w : World) (hw : w.heap = h) :
    ∃ w', (Instr.storeAt t (.pointer (some a)) v).run P w = .ok () w' ∧ Env w w' ∧ K w'.heap := by
  unfold StS at hs
  split at hs
  · exact hs.elim
  · rename_i i hi
    split at hs
    · rename_i hsz
      obtain ⟨w', hr, hE, hk⟩ := StL_run (P := P) _ _ _ _ hs w hw
      refine ⟨w', ?_, hE, hk⟩
      have h1 : (sizeOf t).run P w = .ok i.size w := by unfold sizeOf; rw [Sem.run_bind, show (typeInfo t).run P w = .ok i w by simp [typeInfo, hi, program, Sem.run_bind, Sem.run]]; rfl
      simp only [Instr.storeAt, Instr.sureAddr, Sem.run_bind, Sem.run_pure, Result.andThen_ok, storeVar, h1]
      rw [if_neg (by simp [hsz])]
      exact hr
    · exact hs.elim
end
end Go.Proofs.YtniojdaddolnfaaGreat

/-
  That the model does what 'opW' says: each kind of operation.
-/
namespace Go.Proofs.YtniojdaddolnfaaGreat
open Go
section
variable {P : Program}

def nwK (P : Program) (o : Oper) : Bool :=
  match o.op with
  | .move _ => true
  | .assign _ => true
  | .pick _ _ _ => true
  | .load _ _ => true
  | .nilCheck _ => true
  | .binOp _ _ _ _ _ => true
  | .indexAddr _ _ _ => true
  | .index _ _ _ => true
  | .slice _ _ _ _ _ => true
  | .lookup _ _ _ _ => true
  | .typeAssert _ _ _ _ => true
  | .unOp _ _ _ => true
  | .fieldAddr _ _ _ => true
  | .field _ _ _ => true
  | .extract _ _ => true
  | .build _ _ => true
  | .makeFunc _ _ _ => true
  | .makeInterface _ _ => true
  | .convert _ dst _ => !isSlc (P.underlying dst)
  | .call c => match c.callee with
    | .builtin .len => true
    | .builtin .cap => true
    | .builtin .min => true
    | .builtin .max => true
    | _ => false
  | _ => false

/-- Does what an operation answers hang on the heap? -/
def ns (P : Program) (o : Oper) : Bool :=
  match o.op with
  | .load _ _ => true
  | .lookup _ _ _ _ => true
  | .typeAssert _ _ _ _ => true
  | .convert src dst _ => isSlc (P.underlying src) && isStr (P.underlying dst)
  | .binOp op t _ y _ => match op with
    | .eql => match y with
      | .const (.pointer none) => false
      | .const (.slice none _ _) => false
      | .const (.map none) => false
      | _ => !basicT (P.underlying t)
    | .neq => match y with
      | .const (.pointer none) => false
      | .const (.slice none _ _) => false
      | .const (.map none) => false
      | _ => !basicT (P.underlying t)
    | _ => false
  | .call c => match c.callee with
    | .builtin .len => isMap ((c.argTypes[0]?).bind P.underlying)
    | _ => false
  | _ => false
/-- What an operation that only reads comes to. -/
def Rd (P : Program) (o : Oper) (σ : Nat → Value) (h : Heap) (v : Value) : Prop := Ans P o σ h v ∧ (ns P o = false → ∀ h', Ans P o σ h' v)
theorem Rd.all {o : Oper} {σ : Nat → Value} {v : Value} (h : Heap) (ha : ∀ h', Ans P o σ h' v) : Rd P o σ h v := ⟨ha h, fun _ => ha⟩
theorem rd_gen {o : Oper} {σ : Nat → Value} {K : Value → Prop} (h : Heap) (hg : ∃ v, K v ∧ ∀ h, Ans P o σ h v) : ∃ v, K v ∧ Rd P o σ h v := let ⟨v, a, b⟩ := hg; ⟨v, a, Rd.all h b⟩
theorem rd_ns {o : Oper} {σ : Nat → Value} {K : Value → Prop} {h : Heap} (hn : ns P o = true) (hg : ∃ v, K v ∧ Ans P o σ h v) : ∃ v, K v ∧ Rd P o σ h v :=
  let ⟨v, a, b⟩ := hg; ⟨v, a, b, fun e => by rw [hn] at e; cases e⟩

theorem equalIn_ptr {t e : TypeId} (hu : P.underlying t = some (.pointer e)) (a : Option Addr) (d : Nat) (w : World) : (Op.equalIn (d + 1) t (.pointer a) (.pointer none)).run P w = .ok a.isNone w := by
  cases a <;> simp [Op.equalIn, run_underlying hu]
theorem equalIn_slc {t e : TypeId} (hu : P.underlying t = some (.slice e)) (a : Option Addr) (n c n' c' : Nat) (d : Nat) (w : World) : (Op.equalIn (d + 1) t (.slice a n c) (.slice none n' c')).run P w = .ok a.isNone w := by
  cases a <;> simp [Op.equalIn, run_underlying hu]
theorem equalIn_map {t k e : TypeId} (hu : P.underlying t = some (.map k e)) (a : Option Nat) (d : Nat) (w : World) : (Op.equalIn (d + 1) t (.map a) (.map none)).run P w = .ok a.isNone w := by
  cases a <;> simp [Op.equalIn, run_underlying hu]

theorem binOp_bool {op : BinOp} {t : TypeId} {x y : Operand} {a b : Value} {r : Bool} {w : World} (hop : op = .eql ∨ op = .neq)
    (hg : (eqGuard op t x y a b).run P w = .ok () w) (hb : (Op.equal t a b).run P w = .ok r w)
    (hk : binOp op t a b = match op with
      | .eql => (do pure (.bool (← Op.equal t a b)))
      | _ => (do pure (.bool (!(← Op.equal t a b))))) :
    (do eqGuard op t x y a b; binOp op t a b : Sem Value).run P w = .ok (.bool (neg? op r)) w := by
  rw [Sem.run_bind, hg, hk]
  rcases hop with rfl | rfl
  · simp only [Result.andThen_ok, Sem.run_bind, hb, Sem.run_pure, neg?]
  · simp only [Result.andThen_ok, Sem.run_bind, hb, Sem.run_pure, neg?]

theorem eqW_ans {o : Oper} {op : BinOp} {t yt : TypeId} {x y : Operand} {σ : Nat → Value} {h : Heap} {K : Value → Prop} (ho : o.op = .binOp op t x y yt) (hop : op = .eql ∨ op = .neq)
    (hq : eqW P o op t x y σ h K) : ∃ v, K v ∧ Rd P o σ h v := by
  have he : execOp (evS σ) o = (do let v ← (do eqGuard op t x y (evS σ x) (evS σ y); binOp op t (evS σ x) (evS σ y) : Sem Value); pure (Next.value v)) := by
    unfold execOp; rw [ho]
  unfold eqW at hq
  split at hq
  · split at hq
    · rename_i a ha
      split at hq
      · rename_i hu
        refine ⟨_, hq, Rd.all h fun h' => ans_of he fun w hw => ⟨w, ?_, Env.refl w, hw⟩⟩
        obtain ⟨e, hu⟩ : ∃ e, P.underlying t = some (.pointer e) := by
          unfold isPtr at hu; split at hu
          · exact ⟨_, by assumption⟩
          · cases hu
        rw [ha]
        refine binOp_bool hop ?_ (equalIn_ptr hu a 9999 w) ?_
        · rcases hop with rfl | rfl <;> simp [eqGuard]
        · rcases hop with rfl | rfl <;> simp [binOp, evS]
      · exact hq.elim
    · exact hq.elim
  · split at hq
    · rename_i a n c ha
      split at hq
      · rename_i hu
        refine ⟨_, hq, Rd.all h fun h' => ans_of he fun w hw => ⟨w, ?_, Env.refl w, hw⟩⟩
        obtain ⟨e, hu⟩ : ∃ e, P.underlying t = some (.slice e) := by
          unfold isSlc at hu; split at hu
          · exact ⟨_, by assumption⟩
          · cases hu
        rw [ha]
        refine binOp_bool hop ?_ (equalIn_slc hu a n c _ _ 9999 w) ?_
        · rcases hop with rfl | rfl <;> simp [eqGuard]
        · rcases hop with rfl | rfl <;> simp [binOp, evS]
      · exact hq.elim
    · exact hq.elim
  · split at hq
    · rename_i a ha
      split at hq
      · rename_i hu
        refine ⟨_, hq, Rd.all h fun h' => ans_of he fun w hw => ⟨w, ?_, Env.refl w, hw⟩⟩
        obtain ⟨k, e, hu⟩ : ∃ k e, P.underlying t = some (.map k e) := by
          unfold isMap at hu; split at hu
          · exact ⟨_, _, by assumption⟩
          · cases hu
        rw [ha]
        refine binOp_bool hop ?_ (equalIn_map hu a 9999 w) ?_
        · rcases hop with rfl | rfl <;> simp [eqGuard]
        · rcases hop with rfl | rfl <;> simp [binOp, evS]
      · exact hq.elim
    · exact hq.elim
  · split at hq
    · exact rd_gen h (genP_ans hq)
    · rename_i hb
      obtain ⟨b, hr, hk⟩ := hq
      refine ⟨_, hk, ans_of he fun w hw => hr w hw, fun hns => ?_⟩
      exfalso
      apply hb
      unfold ns at hns
      rw [ho] at hns
      rcases hop with rfl | rfl
      · simpa using hns
      · simpa using hns

theorem binW_ans {o : Oper} {op : BinOp} {t yt : TypeId} {x y : Operand} {σ : Nat → Value} {h : Heap} {K : Value → Prop} (ho : o.op = .binOp op t x y yt)
    (hq : binW P o op t x y σ h K) : ∃ v, K v ∧ Rd P o σ h v := by
  have he : execOp (evS σ) o = (do let v ← (do eqGuard op t x y (evS σ x) (evS σ y); binOp op t (evS σ x) (evS σ y) : Sem Value); pure (Next.value v)) := by
    unfold execOp; rw [ho]
  have hgo : ∀ w, op ≠ .eql → op ≠ .neq → (eqGuard op t x y (evS σ x) (evS σ y)).run P w = .ok () w := fun w h1 h2 => by
    cases op <;> first | exact absurd rfl h1 | exact absurd rfl h2 | rfl
  have pure_of : ∀ v : Value, op ≠ .eql → op ≠ .neq → (∀ w, (binOp op t (evS σ x) (evS σ y)).run P w = .ok v w) → Rd P o σ h v := fun v h1 h2 hb =>
    Rd.all h fun h' => ans_of he fun w hw => ⟨w, by rw [Sem.run_bind, hgo w h1 h2]; exact hb w, Env.refl w, hw⟩
  cases op
  case eql => exact eqW_ans ho (.inl rfl) hq
  case neq => exact eqW_ans ho (.inr rfl) hq
  case quo =>
    simp only [binW] at hq
    split at hq
    · rename_i k m k' n hx hy
      split at hq
      · rename_i hk; subst hk
        exact ⟨_, hq.2, pure_of _ (by simp) (by simp) fun w => by rw [hx, hy]; simp [binOp, Op.intDiv, hq.1, divV]⟩
      · exact hq.elim
    · exact hq.elim
  case rem =>
    simp only [binW] at hq
    split at hq
    · rename_i k m k' n hx hy
      split at hq
      · rename_i hk; subst hk
        exact ⟨_, hq.2, pure_of _ (by simp) (by simp) fun w => by rw [hx, hy]; simp [binOp, Op.intDiv, hq.1, divV]⟩
      · exact hq.elim
    · exact hq.elim
  case shl =>
    simp only [binW] at hq
    split at hq
    · rename_i k m k' n hx hy
      exact ⟨_, hq.2, pure_of _ (by simp) (by simp) fun w => by
        rw [hx, hy]; have h0 := hq.1; simp [binOp, Op.shift, show ¬ n < 0 by omega, shiftV]⟩
    · exact hq.elim
  case shr =>
    simp only [binW] at hq
    split at hq
    · rename_i k m k' n hx hy
      exact ⟨_, hq.2, pure_of _ (by simp) (by simp) fun w => by
        rw [hx, hy]; have h0 := hq.1; simp [binOp, Op.shift, show ¬ n < 0 by omega, shiftV]⟩
    · exact hq.elim
  case add =>
    simp only [binW] at hq
    split at hq
    · rename_i s hx
      split at hq
      · rename_i s' hy
        exact ⟨_, hq.2, pure_of _ (by simp) (by simp) fun w => by
          have hm : IntKind.i64.max = 9223372036854775807 := by decide
          rw [hx, hy]; have h0 := hq.1; simp only [binOp, Op.stringOp, hm]; rw [if_neg (by omega)]; rfl⟩
      · exact hq.elim
    · exact rd_gen h (genP_ans hq)
  all_goals exact rd_gen h (genP_ans hq)

theorem info_run {e : TypeId} {j : TypeInfo} (hj : P.info? e = some j) (w : World) : (sizeOf e).run P w = .ok j.size w := by
  unfold sizeOf; rw [Sem.run_bind, show (typeInfo e).run P w = .ok j w by simp [typeInfo, hj, program, Sem.run_bind, Sem.run]]; rfl

theorem idxW_ans {o : Oper} {t : TypeId} {x i : Operand} {σ : Nat → Value} {h : Heap} {K : Value → Prop} (ho : o.op = .indexAddr t x i)
    (hq : idxW P t (evS σ x) (evS σ i) K) : ∃ v, K v ∧ Rd P o σ h v := by
  have he : execOp (evS σ) o = (do let v ← Instr.indexAt t (evS σ x) (evS σ i); pure (Next.value v)) := by
    unfold execOp; rw [ho]
  unfold idxW at hq
  split at hq
  · rename_i e hu
    split at hq
    · rename_i j hj
      split at hq
      · rename_i a n c hx
        split at hq
        · rename_i k m hi
          obtain ⟨a', ha, h0, h1, hk⟩ := hq
          simp only at ha
          subst ha
          refine ⟨_, hk, Rd.all h fun h' => ans_of he fun w hw => ⟨w, ?_, Env.refl w, hw⟩⟩
          rw [hx, hi]
          have h1' : m < (n : Int) := h1
          simp [Instr.indexAt, asIntOf, run_underlying hu, info_run hj, h0, h1']
        · exact hq.elim
      · exact hq.elim
    · exact hq.elim
  · rename_i n e hu
    split at hq
    · rename_i j hj
      split at hq
      · rename_i a hx
        split at hq
        · rename_i k m hi
          obtain ⟨h0, h1, hk⟩ := hq
          refine ⟨_, hk, Rd.all h fun h' => ans_of he fun w hw => ⟨w, ?_, Env.refl w, hw⟩⟩
          rw [hx, hi]
          simp [Instr.indexAt, asIntOf, Instr.sureAddr, run_underlying hu, info_run hj, h0, h1]
        · exact hq.elim
      · exact hq.elim
    · exact hq.elim
  · exact hq.elim

theorem indexW_ans {o : Oper} {t : TypeId} {x i : Operand} {σ : Nat → Value} {h : Heap} {K : Value → Prop} (ho : o.op = .index t x i)
    (hq : indexW P o t (evS σ x) (evS σ i) K) : ∃ v, K v ∧ Rd P o σ h v := by
  have he : execOp (evS σ) o = (do let v ← Instr.index t (evS σ x) (evS σ i); pure (Next.value v)) := by
    unfold execOp; rw [ho]
  unfold indexW at hq
  split at hq
  · rename_i hu
    split at hq
    · rename_i s hx
      split at hq
      · rename_i k m hi
        obtain ⟨b, h0, hb, hk⟩ := hq
        refine ⟨_, hk, Rd.all h fun h' => ans_of he fun w hw => ⟨w, ?_, Env.refl w, hw⟩⟩
        rw [hx, hi]
        simp [Instr.index, asIntOf, run_underlying hu, h0, hb]
      · exact hq.elim
    · exact hq.elim
  · exact rd_gen h (OpP.ans he hq)

theorem map_toList (xs : Array Operand) (f : Operand → Value) : (⟨(xs.map f).toList⟩ : Array Value) = xs.map f := rfl

theorem nw_ans {o : Oper} {σ : Nat → Value} {h : Heap} {K : Value → Heap → Prop} (hn : nwK P o = true) (hq : opW P o σ h K) : ∃ v, K v h ∧ Rd P o σ h v := by
  obtain ⟨dst, op, type, pos, after, guard⟩ := o
  cases op <;> simp only [nwK, Bool.false_eq_true] at hn <;> simp only [opW] at hq
  case move x => exact ⟨_, hq, Rd.all h fun h' => ans_pure h' rfl⟩
  case assign x => exact ⟨_, hq, Rd.all h fun h' => ans_pure h' rfl⟩
  case pick c a b =>
    split at hq
    · rename_i t ht
      refine ⟨_, hq, Rd.all h fun h' w hw => ⟨w, ?_, Env.refl w, hw⟩⟩
      simp only [execOp, ht, asBool, pickV_eq]
      cases t <;> rfl
    · exact hq.elim
  case load t x =>
    split at hq
    · rename_i a ha
      obtain ⟨v, hk, hr⟩ := LdS_run hq
      refine rd_ns rfl ⟨v, hk, ans_of (s := Instr.loadAt t (.pointer (some a))) ?_ hr⟩
      simp only [execOp, ha]
    · exact hq.elim
  case nilCheck x =>
    unfold NnI at hq
    split at hq
    · rename_i a ha
      obtain ⟨a', rfl, hk⟩ := hq
      refine ⟨_, hk, Rd.all h fun h' => ans_pure h' ?_⟩
      simp only [execOp, ha]
    · rename_i t v ha
      refine ⟨_, hq, Rd.all h fun h' => ans_pure h' ?_⟩
      simp only [execOp, ha]
    · rename_i f fs cap ha
      refine ⟨_, hq, Rd.all h fun h' => ans_pure h' ?_⟩
      simp only [execOp, ha]
    · exact hq.elim
  case binOp op t x y yt => exact binW_ans rfl hq
  case indexAddr t x i => exact idxW_ans rfl hq
  case index t x i => exact indexW_ans rfl hq
  case slice t x lo hi mx => exact rd_gen h (OpP.ans rfl hq)
  case lookup t x i ok => exact rd_ns rfl (OpV.ans rfl hq)
  case typeAssert x t u ok => exact rd_ns rfl (OpV.ans rfl hq)
  case convert src dst x =>
    have hn' : isSlc (P.underlying dst) = false := by rwa [Bool.not_eq_true'] at hn
    unfold convW at hq
    rw [if_neg (by simp [hn'])] at hq
    split at hq
    · rename_i hsl
      exact rd_ns hsl (OpV.ans rfl hq)
    · exact rd_gen h (genP_ans hq)
  case call c =>
    obtain ⟨callee, args, argTypes⟩ := c
    cases callee with
    | builtin b =>
      have he : ∀ s : Sem Value, builtin b argTypes type (args.map fun | .const _ => true | _ => false) (args.map (evS σ)) = (do let v ← s; pure (Next.value v)) →
          execOp (evS σ) ⟨dst, .call ⟨.builtin b, args, argTypes⟩, type, pos, after, guard⟩ = (do let v ← s; pure (Next.value v)) := fun s hs => by
        rw [← hs]; rfl
      cases b <;> first | (exact Bool.noConfusion hn) | skip
      case len =>
        simp only [callW, bltW] at hq
        split at hq
        · rename_i hm
          obtain ⟨n, hr, hk⟩ := hq
          exact rd_ns hm ⟨_, hk, ans_of (he (Builtin.len_ argTypes type (args.map (evS σ))) rfl) hr⟩
        · exact rd_gen h (genP_ans hq)
      case cap => exact rd_gen h (genP_ans hq)
      case min => exact rd_gen h (genP_ans hq)
      case max => exact rd_gen h (genP_ans hq)
    | value f => exact Bool.noConfusion hn
    | invoke r m => exact Bool.noConfusion hn
  all_goals exact rd_gen h (genP_ans hq)

theorem callFunc_enter {g : FuncId} {args : Array Value} (hg : okF P g = true) (w : World) : (callFunc g args).run P w = .ok (.enter g args) w := by
  unfold okF at hg
  cases hf : P.funcs[g]? with
  | none => rw [hf] at hg; cases hg
  | some fn =>
    rw [hf] at hg
    simp only [Bool.and_eq_true, Bool.not_eq_true'] at hg
    have hb : ¬ fn.body = none := by
      intro hb; rw [hb] at hg; exact Bool.noConfusion hg.1
    have hn : ¬ fn.name = "runtime.NumGoroutine" := by
      intro hn; rw [hn] at hg; simp at hg
    simp [callFunc, program, Sem.run, Sem.run_bind, hf, hn, hb]

theorem CallR.done {g : FuncId} {args : Array Value} {w : World} {h : Heap} {ss : List Sh} {K : Value → Heap → Prop} (hg : okF P g = true) (hw : w.heap = h)
    (hc : CallR P g args.toList h ss (tT ss K)) : Done P K w ((callFunc g args).run P w) := by
  subst hw
  rw [callFunc_enter hg]
  refine ⟨Env.refl w, CallsH.mono hc ?_⟩
  rintro e h' ⟨x, rfl, hk⟩
  rw [tT_un] at hk
  exact ⟨_, rfl, hk⟩

theorem invoke_iface (t : TypeId) (v : Value) (m : String) (xs : Array Value) : invoke (.fn (.method m) #[]) (#[Value.iface t v] ++ xs) = callMethod (.iface t v) m xs := by
  have h0 : (#[Value.iface t v] ++ xs)[0]? = some (Value.iface t v) := by rw [Array.getElem?_append_left (by simp)]; rfl
  have h1 : (#[Value.iface t v] ++ xs).extract 1 (#[Value.iface t v] ++ xs).size = xs := by simp
  unfold invoke
  simp only [h0, h1]
theorem opW_done {o : Oper} {σ : Nat → Value} {h : Heap} {K : Value → Heap → Prop} (hq : opW P o σ h K) (w : World) (hw : w.heap = h) : Done P K w ((execOp (evS σ) o).run P w) := by
  by_cases hn : nwK P o = true
  · obtain ⟨v, hk, ha⟩ := nw_ans hn hq
    exact ha.1.done hk w hw
  · obtain ⟨dst, op, type, pos, after, guard⟩ := o
    cases op <;> (first | (exact absurd rfl hn) | skip) <;> simp only [opW] at hq
    case store t x v =>
      split at hq
      · rename_i a ha
        obtain ⟨w', hr, hE, hk⟩ := StS_run hq w hw
        have he : execOp (evS σ) ⟨dst, .store t x v, type, pos, after, guard⟩ = (do Instr.storeAt t (.pointer (some a)) (evS σ v); pure Next.skip) := by simp only [execOp, ha]
        rw [he, run_map_skip, hr]
        exact ⟨hE, hk⟩
      · exact hq.elim
    case convert src dst' x =>
      unfold convW at hq
      split at hq
      · exact OpT.done rfl hq w hw
      · rename_i h1
        exact absurd (show (!isSlc (P.underlying dst')) = true by rw [Bool.not_eq_true', ← Bool.not_eq_true]; exact h1) hn
    case call c =>
      obtain ⟨callee, args, argTypes⟩ := c
      cases callee with
      | builtin b =>
        have he : ∀ s : Sem Value, builtin b argTypes type (args.map fun | .const _ => true | _ => false) (args.map (evS σ)) = (do let v ← s; pure (Next.value v)) →
            execOp (evS σ) ⟨dst, .call ⟨.builtin b, args, argTypes⟩, type, pos, after, guard⟩ = (do let v ← s; pure (Next.value v)) := fun s hs => by
          rw [← hs]; rfl
        cases b <;> simp only [callW, bltW] at hq <;> (first | exact hq.elim | skip)
        case append => exact OpT.done (he _ rfl) hq w hw
        case copy => exact OpT.done (he _ rfl) hq w hw
        case clear => exact OpT.done (he _ rfl) hq w hw
        case delete => exact OpT.done (he _ rfl) hq w hw
        all_goals exact absurd rfl hn
      | value f =>
        simp only [callW] at hq
        split at hq
        · rename_i g first cap hf
          have he : execOp (evS σ) ⟨dst, .call ⟨.value f, args, argTypes⟩, type, pos, after, guard⟩ = callFunc g (first ++ args.map (evS σ) ++ cap) := by
            simp only [execOp, resolve, hf]; rfl
          rw [he]
          cases hg : okF P g with
          | true =>
            rw [hg] at hq
            exact CallR.done hg hw hq
          | false =>
            rw [hg] at hq
            obtain ⟨nx, w', hr, hE, x, rfl, hk⟩ := hq w hw
            rw [tT_un] at hk
            rw [hr]
            exact ⟨hE, hk⟩
        · exact hq.elim
      | invoke r m =>
        simp only [callW] at hq
        unfold Invk at hq
        split at hq
        · rename_i g rv hm
          unfold mthW at hm
          split at hm
          · rename_i t v hv
            have he : execOp (evS σ) ⟨dst, .call ⟨.invoke r m, args, argTypes⟩, type, pos, after, guard⟩ = callMethod (.iface t v) m (args.map (evS σ)) := by
              have hi : invoke (.fn (.method m) #[]) (#[Value.iface t v] ++ args.map (evS σ)) = callMethod (.iface t v) m (args.map (evS σ)) := by
                exact invoke_iface t v m _
              rw [← hi]
              simp only [execOp, resolve, hv]
              rfl
            have hr := semP_run _ w hm
            have hc : (callMethod (.iface t v) m (args.map (evS σ))).run P w = (callFunc g (#[rv] ++ args.map (evS σ))).run P w := by
              simp [callMethod, Sem.run_bind, program, Sem.run, hr]
            rw [he, hc]
            exact CallR.done hq.1 hw (by simpa using hq.2)
          · cases hm
        · exact hq.elim
    case mapUpdate t m k x => exact OpU.done rfl hq w hw
    case insert t m k x => exact OpU.done rfl hq w hw
    case makeSlice t l c => exact OpT.done rfl hq w hw
    case makeMap t r => exact OpT.done rfl hq w hw
    case range t x => exact OpT.done rfl hq w hw
    case next it s => exact OpT.done rfl hq w hw
    case alloc e => exact genA_done hq w hw
    case box e v => exact genA_done hq w hw
    case buildSlice t n ps => exact genA_done hq w hw
    all_goals exact hq.elim
end
end Go.Proofs.YtniojdaddolnfaaGreat

/-
  Regions: in the text's order; and such as draw their order: one walk in a fixed order, with what was read read again behind each writing operation that it is not ordered to.
-/
namespace Go.Proofs.YtniojdaddolnfaaGreat
open Go

theorem beq_ff {t d : Nat} (h : t ≠ d) : Nat.beq t d = false := by
  cases e : Nat.beq t d with
  | true => exact absurd (Nat.eq_of_beq_eq_true e) h
  | false => rfl
/-- The frame's slots are as 'σ' says. -/
structure Fr (n : Nat) (a : Act) (σ : Nat → Value) : Prop where
  size : a.tmps.size = n
  defers : a.defers = []
  at_ : ∀ t, a.tmps.getD t undef = σ t
theorem Fr.eval {n : Nat} {a : Act} {σ : Nat → Value} (h : Fr n a σ) : a.eval = evS σ := by
  funext x
  cases x with
  | tmp t => exact h.at_ t
  | _ => rfl
theorem Fr.put {n : Nat} {a : Act} {σ : Nat → Value} (h : Fr n a σ) (o : Option Tmp) (hd : ∀ d, o = some d → d < n) (v : Value) : Fr n (a.put o v) (putS σ o v) := by
  cases o with
  | none => exact h
  | some d =>
    have hd := hd d rfl
    refine ⟨by simp [Act.put, h.size], h.defers, fun t => ?_⟩
    by_cases e : t = d
    · subst e
      have : t < a.tmps.size := by rw [h.size]; exact hd
      simp [Act.put, putS, up, Array.getD, this]
    · have e1 : Nat.beq t d = false := beq_ff e
      have e2 : d ≠ t := fun x => e x.symm
      have := h.at_ t
      simp only [Act.put, putS, up, e1, cond_false]
      rw [← this]
      simp [Array.getD_eq_getD_getElem?, Array.getElem?_setIfInBounds_ne e2]
theorem up_self (σ : Nat → Value) (d : Nat) : up σ d (σ d) = σ := by
  funext t
  unfold up
  cases e : Nat.beq t d with
  | true => have : t = d := by simpa using e
            rw [this]; rfl
  | false => rfl
theorem up_ne {σ : Nat → Value} {d t : Nat} {v : Value} (h : t ≠ d) : up σ d v t = σ t := by
  have e : Nat.beq t d = false := beq_ff h
  simp [up, e]
theorem up_eq {σ : Nat → Value} {d : Nat} {v : Value} : up σ d v d = v := by
  have e : Nat.beq d d = true := by simp
  simp [up, e]
theorem putS_ne {σ : Nat → Value} {o : Option Tmp} {t : Nat} {v : Value} (h : o ≠ some t) : putS σ o v t = σ t := by
  cases o with
  | none => rfl
  | some d => exact up_ne fun e => h (by rw [e])

section
variable (P : Program) (ops : Array Oper)
/-- An operation under its guard: what is run, what is passed over. -/
def runB (o : Oper) (d : Nat) (b want : Bool) (σ : Nat → Value) (h : Heap) (Kr Ks : Kont) : Prop :=
  if b = want then opW P o (up σ d (.bool b)) h fun v h' => Kr (putS (up σ d (.bool b)) o.dst v) h' else Ks (putS (up σ d (.bool b)) o.dst undef) h
def runG (o : Oper) (σ : Nat → Value) (h : Heap) (Kr Ks : Kont) : Prop :=
  match o.guard with
  | none => opW P o σ h fun v h' => Kr (putS σ o.dst v) h'
  | some (j, want) => match (ops[j]?).bind (·.dst) with
    | none => False
    | some d => match σ d with
      | .bool t => cond t (runB P o d true want σ h Kr Ks) (runB P o d false want σ h Kr Ks)
      | _ => Ks (putS σ o.dst undef) h
/-- The text's order. -/
def X : List Oper → Kont → Kont
  | [], K, σ, h => K σ h
  | o :: os, K, σ, h => runG P ops o σ h (X os K) (X os K)

def wantS (o : Oper) (σ : Nat → Value) : Bool :=
  match o.guard with
  | none => true
  | some (j, want) => match (ops[j]?).bind (·.dst) with
    | some d => match σ d with
      | .bool t => t == want
      | _ => false
    | none => false
variable {P ops}
theorem wanted_eq {n : Nat} {a : Act} {σ : Nat → Value} (hf : Fr n a σ) (o : Oper) : Region.wanted o (yielded ops a.tmps) = wantS ops o σ := by
  unfold Region.wanted wantS
  cases o.guard with
  | none => rfl
  | some g =>
    obtain ⟨j, want⟩ := g
    simp only [yielded]
    cases hd : (ops[j]?).bind (·.dst) with
    | none => rfl
    | some d =>
      simp only [Option.bind_some]
      have := hf.at_ d
      rw [Array.getD_eq_getD_getElem?] at this
      cases e : a.tmps[d]? with
      | none => rw [e] at this; simp only [Option.getD_none] at this; rw [← this]; rfl
      | some v => rw [e] at this; simp only [Option.getD_some] at this; rw [← this]; cases v <;> rfl
theorem runG_cases {o : Oper} {σ : Nat → Value} {h : Heap} {Kr Ks : Kont} (hr : runG P ops o σ h Kr Ks) :
    (wantS ops o σ = true ∧ opW P o σ h fun v h' => Kr (putS σ o.dst v) h') ∨ (wantS ops o σ = false ∧ Ks (putS σ o.dst undef) h) := by
  unfold runG at hr
  unfold wantS
  split at hr
  · exact .inl ⟨rfl, hr⟩
  · rename_i j want hg
    split at hr
    · exact hr.elim
    · rename_i d hd
      simp only [hd]
      split at hr
      · rename_i t ht
        have hb : ∀ b, b = t → runB P o d b want σ h Kr Ks → ((t == want) = true ∧ opW P o σ h fun v h' => Kr (putS σ o.dst v) h') ∨ ((t == want) = false ∧ Ks (putS σ o.dst undef) h) := by
          intro b e hq
          subst e
          have hs : up σ d (.bool b) = σ := by rw [← ht]; exact up_self σ d
          unfold runB at hq
          rw [hs] at hq
          split at hq
          · rename_i e; subst e; exact .inl ⟨by simp, hq⟩
          · rename_i e; exact .inr ⟨by simpa using e, hq⟩
        cases t with
        | true => exact hb true rfl hr
        | false => exact hb false rfl hr
      · exact .inr ⟨rfl, hr⟩
theorem upon_done {o : Oper} {a : Act} {w : World} {K : Value → Heap → Prop} {next : Act → World → Prop} {Q : Exit → Act → World → Prop} {r : Result Next} (hd : Done P K w r)
    (hk : ∀ v w', Env w w' → K v w'.heap → next (a.put o.dst v) w') : o.upon P a next Q r := by
  cases r with
  | halt x w' => exact hd.elim
  | ok nx w' =>
    cases nx <;> simp only [Done] at hd <;> first | exact hd.elim | skip
    case value v => exact hk _ _ hd.1 hd.2
    case skip => exact hk _ _ hd.1 hd.2
    case enter f args =>
      refine Calls.mono (hd.2 w' rfl) ?_
      rintro e w'' ⟨hE, v, rfl, hK⟩
      exact hk _ _ (hd.1.trans hE) hK

def Agr (m : Nat → Prop) (σ σ' : Nat → Value) : Prop := ∀ t, ¬ m t → σ' t = σ t
theorem X_sound {n : Nat} {w₀ : World} {Q : Exit → Act → World → Prop} {K : Kont} : ∀ (os : List Oper) (σ : Nat → Value) (h : Heap) (a : Act) (w : World), X P ops os K σ h →
    Fr n a σ → w.heap = h → Env w₀ w → (∀ o ∈ os, ∀ d, o.dst = some d → d < n) →
    (∀ σ' a' w', Fr n a' σ' → Env w₀ w' → K σ' w'.heap → Agr (fun t => ∃ o ∈ os, o.dst = some t) σ σ' → Q .normal a' w') → wpList P ops Q os a w
  | [], σ, h, a, w, hx, hf, hw, hE, _, hQ => hQ σ a w hf hE (by rw [hw]; exact hx) (fun _ _ => rfl)
  | o :: os, σ, h, a, w, hx, hf, hw, hE, hd, hQ => by
    have hd1 : ∀ d, o.dst = some d → d < n := hd o (List.mem_cons_self ..)
    have step : ∀ v w', Env w w' → X P ops os K (putS σ o.dst v) w'.heap → wpList P ops Q os (a.put o.dst v) w' := fun v w' hE' hx' => by
      refine X_sound os _ _ _ _ hx' (hf.put o.dst hd1 v) rfl (hE.trans hE') (fun o' ho => hd o' (List.mem_cons_of_mem _ ho)) fun σ' a' w'' hf' hE'' hK hag => ?_
      refine hQ σ' a' w'' hf' hE'' hK fun t ht => ?_
      rw [hag t fun ⟨o', ho', e⟩ => ht ⟨o', List.mem_cons_of_mem _ ho', e⟩]
      exact putS_ne fun e => ht ⟨o, List.mem_cons_self .., e⟩
    unfold wpList
    rw [wanted_eq hf]
    rcases runG_cases hx with ⟨hg, hq⟩ | ⟨hg, hq⟩
    · rw [if_pos hg]
      refine .inl ?_
      unfold Oper.wp
      rw [hf.eval]
      exact upon_done (opW_done hq w hw) step
    · rw [if_neg (by simp [hg])]
      refine step undef w (Env.refl w) ?_
      rw [hw]; exact hq
end

/-! ## Regions that draw -/
section
variable (P : Program) (ops : Array Oper)
def bef (i k : Nat) : Bool := ((Region.before ops).getD k 0).testBit i
def rdy (L i : Nat) : Bool :=
  match ops[i]? with
  | none => false
  | some o => !Nat.testBit L i && o.after.toList.all fun e => !Region.binds .any e || Nat.testBit L e.on
def looks (k : Nat) : List Nat :=
  match ops[k]? with
  | none => []
  | some o => o.looksAt ops
def dstOf (k : Nat) : Option Nat := (ops[k]?).bind (·.dst)
def isD (k d : Nat) : Bool :=
  match dstOf ops k with
  | some e => Nat.beq e d
  | none => false
/-- A slot that is written once, and looked at behind that alone. -/
def ssa (i : Nat) : Bool :=
  match dstOf ops i with
  | none => false
  | some d => (List.range ops.size).all fun k => if Nat.beq k i then !(looks ops k).contains d else (!(looks ops k).contains d && !isD ops k d) || bef ops i k
def nw (i : Nat) : Bool :=
  match ops[i]? with
  | none => false
  | some o => nwK P o && ssa ops i
/-- What the order in which a region's operations may run leaves fixed. -/
def chk : Bool :=
  (List.range ops.size).all fun k =>
    (match ops[k]? with
      | none => false
      | some o => o.after.toList.all fun e => !Region.binds .any e || decide (e.on < k)) &&
    (match dstOf ops k with
      | none => true
      | some d => (List.range ops.size).all fun j => Nat.beq j k || (!(looks ops j).contains d && !isD ops j d) || bef ops k j || bef ops j k)
def nextNW (L : Nat) : Option Nat := (List.range ops.size).find? fun i => rdy ops L i && nw P ops i
def allI : List Nat → (Nat → Prop) → Prop
  | [], _ => True
  | [i], f => f i
  | i :: j :: is, f => f i ∧ allI (j :: is) f
def stabOp (r : Nat) (σ : Nat → Value) (h : Heap) : Prop :=
  match ops[r]? with
  | none => True
  | some o => match o.dst with
    | none => True
    | some d => match o.guard with
      | none => opW P o σ h fun v _ => v = σ d
      | some (j, want) => match (ops[j]?).bind (·.dst) with
        | none => True
        | some g => match σ g with
          | .bool t => if t = want then opW P o σ h fun v _ => v = σ d else True
          | _ => True
def stabs : List Nat → (Nat → Value) → Heap → Prop → Prop
  | [], _, _, p => p
  | r :: rs, σ, h, p => stabOp P ops r σ h ∧ stabs rs σ h p
def nsI (r : Nat) : Bool :=
  match ops[r]? with
  | none => false
  | some o => ns P o
def again (L i : Nat) : List Nat := (List.range ops.size).filter fun r => Nat.testBit L r && nw P ops r && nsI P ops r && !bef ops r i
def T : Nat → Nat → Kont → Kont
  | 0, _, _ => fun _ _ => False
  | f + 1, L, K => fun σ h =>
    match nextNW P ops L with
    | some i => match ops[i]? with
      | some o => runG P ops o σ h (T f (L ||| 2 ^ i) K) (T f (L ||| 2 ^ i) K)
      | none => False
    | none => match (List.range ops.size).filter (rdy ops L) with
      | [] => K σ h
      | is => allI is fun i => match ops[i]? with
        | some o => runG P ops o σ h (fun σ' h' => stabs P ops (again P ops L i) σ' h' (T f (L ||| 2 ^ i) K σ' h')) (T f (L ||| 2 ^ i) K)
        | none => False
end
end Go.Proofs.YtniojdaddolnfaaGreat

/-
  A region that draws its order does, in every order that its edges allow, what 'T' says of one.
-/
namespace Go.Proofs.YtniojdaddolnfaaGreat
open Go

section
variable {P : Program} {ops : Array Oper}

/-! ### What stands ahead of what -/
def fIn (acc : Array Nat) (s : Nat) (e : Edge) : Nat := if Region.binds .any e then s ||| 2 ^ e.on ||| acc.getD e.on 0 else s
def fB (acc : Array Nat) (o : Oper) : Array Nat := acc.push (o.after.foldl (fIn acc) 0)
theorem before_eq (ops : Array Oper) : Region.before ops = ops.toList.foldl fB #[] := by
  unfold Region.before
  rw [← Array.foldl_toList]
  rfl
theorem inner_bit (acc : Array Nat) (i : Nat) : ∀ (es : List Edge) (s : Nat), (es.foldl (fIn acc) s).testBit i = true →
    s.testBit i = true ∨ ∃ e ∈ es, Region.binds .any e = true ∧ (i = e.on ∨ (acc.getD e.on 0).testBit i = true)
  | [], s, h => .inl h
  | e :: es, s, h => by
    rcases inner_bit acc i es _ h with h1 | ⟨e', he', hb⟩
    · unfold fIn at h1
      split at h1
      · rename_i hb
        simp only [Nat.testBit_or, Bool.or_eq_true, Nat.testBit_two_pow, decide_eq_true_eq] at h1
        rcases h1 with (h1 | h1) | h1
        · exact .inl h1
        · exact .inr ⟨e, List.mem_cons_self .., hb, .inl h1.symm⟩
        · exact .inr ⟨e, List.mem_cons_self .., hb, .inr h1⟩
      · exact .inl h1
    · exact .inr ⟨e', List.mem_cons_of_mem _ he', hb⟩
def BInv (pre : List Oper) (acc : Array Nat) : Prop :=
  acc.size = pre.length ∧ ∀ k i, (acc.getD k 0).testBit i = true → ∃ o, pre[k]? = some o ∧ ∃ e ∈ o.after.toList, Region.binds .any e = true ∧ (i = e.on ∨ (acc.getD e.on 0).testBit i = true)
theorem BInv.step {pre : List Oper} {acc : Array Nat} (h : BInv pre acc) (o : Oper) : BInv (pre ++ [o]) (fB acc o) := by
  obtain ⟨hs, hb⟩ := h
  have keep : ∀ k i, (acc.getD k 0).testBit i = true → ((fB acc o).getD k 0).testBit i = true := by
    intro k i hk
    by_cases hlt : k < acc.size
    · have : (fB acc o).getD k 0 = acc.getD k 0 := by
        simp only [fB, Array.getD_eq_getD_getElem?, Array.getElem?_push]
        rw [if_neg (by omega)]
      rw [this]; exact hk
    · rw [Array.getD_eq_getD_getElem?, Array.getElem?_eq_none (by omega)] at hk
      simp at hk
  refine ⟨by simp [fB, hs], fun k i hk => ?_⟩
  by_cases hlt : k < acc.size
  · have e1 : (fB acc o).getD k 0 = acc.getD k 0 := by
      simp only [fB, Array.getD_eq_getD_getElem?, Array.getElem?_push]
      rw [if_neg (by omega)]
    rw [e1] at hk
    obtain ⟨o', ho', e, he, hbd, hor⟩ := hb k i hk
    refine ⟨o', by rw [List.getElem?_append_left (by omega)]; exact ho', e, he, hbd, hor.imp id (keep _ _)⟩
  · by_cases heq : k = acc.size
    · subst heq
      have e1 : (fB acc o).getD acc.size 0 = o.after.toList.foldl (fIn acc) 0 := by
        simp [fB, Array.getD_eq_getD_getElem?]
      rw [e1] at hk
      rcases inner_bit acc i _ _ hk with h0 | ⟨e, he, hbd, hor⟩
      · simp at h0
      · exact ⟨o, by rw [hs]; simp, e, he, hbd, hor.imp id (keep _ _)⟩
    · have : (fB acc o).getD k 0 = 0 := by
        rw [Array.getD_eq_getD_getElem?, Array.getElem?_eq_none (by simp [fB]; omega)]; rfl
      rw [this] at hk
      simp at hk
theorem BInv.all : ∀ (l pre : List Oper) (acc : Array Nat), BInv pre acc → BInv (pre ++ l) (l.foldl fB acc)
  | [], pre, acc, h => by simpa using h
  | o :: l, pre, acc, h => by
    have := BInv.all l (pre ++ [o]) (fB acc o) (h.step o)
    simpa using this
theorem bef_step {i k : Nat} (h : bef ops i k = true) : ∃ o, ops[k]? = some o ∧ ∃ e ∈ o.after.toList, Region.binds .any e = true ∧ (i = e.on ∨ bef ops i e.on = true) := by
  have hI := BInv.all ops.toList [] #[] ⟨rfl, fun k i hk => by simp at hk⟩
  rw [← before_eq] at hI
  obtain ⟨o, ho, he⟩ := hI.2 k i h
  exact ⟨o, by simpa using ho, he⟩

/-- A set that holds what stands ahead of what it holds. -/
def Cl (ops : Array Oper) (S : Nat → Prop) : Prop := ∀ k o, S k → ops[k]? = some o → ∀ e ∈ o.after.toList, Region.binds .any e = true → S e.on
def Down (ops : Array Oper) : Prop := ∀ k o, ops[k]? = some o → ∀ e ∈ o.after.toList, Region.binds .any e = true → e.on < k
theorem bef_in {S : Nat → Prop} (hd : Down ops) (hS : Cl ops S) (i : Nat) : ∀ k, bef ops i k = true → S k → S i := by
  intro k
  induction k using Nat.strongRecOn with
  | _ k ih =>
    intro hb hk
    obtain ⟨o, ho, e, he, hbd, hor⟩ := bef_step hb
    have h1 := hS k o hk ho e he hbd
    rcases hor with rfl | h2
    · exact h1
    · exact ih e.on (hd k o ho e he hbd) h2 h1
theorem bef_rdy {S : Nat → Prop} (hd : Down ops) (hS : Cl ops S) {i k : Nat} {o : Oper} (ho : ops[k]? = some o) (hr : ∀ e ∈ o.after.toList, Region.binds .any e = true → S e.on)
    (hb : bef ops i k = true) : S i := by
  obtain ⟨o', ho', e, he, hbd, hor⟩ := bef_step hb
  rw [ho] at ho'
  injection ho' with ho'
  subst ho'
  rcases hor with rfl | h2
  · exact hr e he hbd
  · exact bef_in hd hS i e.on h2 (hr e he hbd)

theorem lt_of_get {k : Nat} {o : Oper} (h : ops[k]? = some o) : k < ops.size := (Array.getElem?_eq_some_iff.1 h).1
theorem chk_down (h : chk ops = true) : Down ops := by
  intro k o ho e he hb
  have := List.all_eq_true.1 h k (by simpa using lt_of_get ho)
  simp only [ho, Bool.and_eq_true, List.all_eq_true] at this
  have := this.1 e he
  simpa [hb] using this
theorem chk_slots (h : chk ops = true) {k j d : Nat} {o o' : Oper} (ho : ops[k]? = some o) (hd : o.dst = some d) (ho' : ops[j]? = some o') (hne : j ≠ k)
    (hm : d ∈ o'.looksAt ops ∨ o'.dst = some d) : bef ops k j = true ∨ bef ops j k = true := by
  have h1 := List.all_eq_true.1 h k (by simpa using lt_of_get ho)
  simp only [dstOf, ho, Option.bind_some, hd, Bool.and_eq_true, List.all_eq_true] at h1
  have h2 := h1.2 j (by simpa using lt_of_get ho')
  have h3 : isD ops j d = true ∨ d ∈ looks ops j := by
    rcases hm with hm | hm
    · exact .inr (by unfold looks; rw [ho']; exact hm)
    · exact .inl (by simp [isD, dstOf, ho', hm])
  simp only [beq_ff hne, Bool.false_or, Bool.or_eq_true, Bool.and_eq_true, Bool.not_eq_true', List.contains_eq_mem, decide_eq_false_iff_not] at h2
  rcases h2 with (h2 | h2) | h2
  · rcases h3 with h3 | h3
    · rw [h2.2] at h3; cases h3
    · exact absurd h3 h2.1
  · exact .inl h2
  · exact .inr h2
theorem nw_spec {i : Nat} (h : nw P ops i = true) : ∃ o d, ops[i]? = some o ∧ o.dst = some d ∧ nwK P o = true ∧ d ∉ o.looksAt ops ∧
    ∀ k o', ops[k]? = some o' → k ≠ i → (d ∈ o'.looksAt ops ∨ o'.dst = some d) → bef ops i k = true := by
  unfold nw at h
  split at h
  · cases h
  · rename_i o ho
    simp only [Bool.and_eq_true] at h
    have h2 := h.2
    unfold ssa at h2
    split at h2
    · cases h2
    · rename_i d hd
      have hd' : o.dst = some d := by simpa [dstOf, ho] using hd
      rw [List.all_eq_true] at h2
      refine ⟨o, d, ho, hd', h.1, ?_, fun k o' ho' hne hm => ?_⟩
      · have := h2 i (by simpa using lt_of_get ho)
        have e : Nat.beq i i = true := by simp
        simp only [e, if_true, looks, ho, Bool.not_eq_true', List.contains_eq_mem, decide_eq_false_iff_not] at this
        exact this
      · have := h2 k (by simpa using lt_of_get ho')
        simp only [beq_ff hne, Bool.false_eq_true, if_false, Bool.or_eq_true, Bool.and_eq_true, Bool.not_eq_true', List.contains_eq_mem, decide_eq_false_iff_not] at this
        rcases this with h3 | h3
        · rcases hm with hm | hm
          · exact absurd (by unfold looks; rw [ho']; exact hm) h3.1
          · have : isD ops k d = true := by simp [isD, dstOf, ho', hm]
            rw [h3.2] at this; cases this
        · exact h3

theorem nwK_sel {o : Oper} (h : nwK P o = true) : ∀ cs b, o.op ≠ .select cs b := by
  intro cs b e
  unfold nwK at h
  rw [e] at h
  cases h
theorem opW_sel {o : Oper} {σ : Nat → Value} {h : Heap} {K : Value → Heap → Prop} (hq : opW P o σ h K) : ∀ cs b, o.op ≠ .select cs b := by
  intro cs b e
  unfold opW at hq
  rw [e] at hq
  exact hq
theorem exec_looks {o : Oper} {σ σ' : Nat → Value} (hs : ∀ cs b, o.op ≠ .select cs b) (h : ∀ t ∈ o.looksAt ops, σ t = σ' t) : execOp (evS σ) o = execOp (evS σ') o := by
  refine execOp_congr o hs fun x hx => ?_
  cases x with
  | tmp t => exact h t (List.mem_append_left _ (List.mem_filterMap.2 ⟨.tmp t, by simpa using hx, rfl⟩))
  | _ => rfl
theorem want_looks {o : Oper} {σ σ' : Nat → Value} (h : ∀ t ∈ o.looksAt ops, σ t = σ' t) : wantS ops o σ = wantS ops o σ' := by
  unfold wantS
  cases hg : o.guard with
  | none => rfl
  | some g =>
    obtain ⟨j, want⟩ := g
    simp only
    cases hd : (ops[j]?).bind (·.dst) with
    | none => rfl
    | some d =>
      have : σ d = σ' d := h d (List.mem_append_right _ (by rw [hg]; simp [hd]))
      simp only [this]
theorem Ans.looks {o : Oper} {σ σ' : Nat → Value} {h : Heap} {v : Value} (hs : ∀ cs b, o.op ≠ .select cs b) (he : ∀ t ∈ o.looksAt ops, σ t = σ' t) (ha : Ans P o σ h v) : Ans P o σ' h v := by
  unfold Ans at *
  rw [← exec_looks hs he]
  exact ha
theorem Rd.looks {o : Oper} {σ σ' : Nat → Value} {h : Heap} {v : Value} (hs : ∀ cs b, o.op ≠ .select cs b) (he : ∀ t ∈ o.looksAt ops, σ t = σ' t) (ha : Rd P o σ h v) : Rd P o σ' h v :=
  ⟨ha.1.looks hs he, fun hn h' => (ha.2 hn h').looks hs he⟩

theorem tb (L i j : Nat) : (L ||| 2 ^ i).testBit j = true ↔ L.testBit j = true ∨ j = i := by
  rw [Nat.testBit_or, Bool.or_eq_true, Nat.testBit_two_pow, decide_eq_true_eq]
  constructor
  · rintro (h | h)
    · exact .inl h
    · exact .inr h.symm
  · rintro (h | h)
    · exact .inl h
    · exact .inr h.symm
theorem rdy_spec {L i : Nat} : rdy ops L i = true ↔ ∃ o, ops[i]? = some o ∧ Nat.testBit L i = false ∧ ∀ e ∈ o.after.toList, Region.binds .any e = true → Nat.testBit L e.on = true := by
  unfold rdy
  cases ho : ops[i]? with
  | none => simp
  | some o =>
    simp only [Bool.and_eq_true, Bool.not_eq_true', List.all_eq_true, Bool.or_eq_true]
    constructor
    · rintro ⟨h1, h2⟩
      exact ⟨o, rfl, h1, fun e he hb => (h2 e he).resolve_left (by simp [hb])⟩
    · rintro ⟨o', ho', h1, h2⟩
      injection ho' with ho'
      subst ho'
      refine ⟨h1, fun e he => ?_⟩
      cases hb : Region.binds .any e with
      | true => exact .inr (h2 e he hb)
      | false => exact .inl rfl
theorem getD_tf {A : Array Bool} {i : Nat} (h : i < A.size) : A.getD i true = A.getD i false := by simp [Array.getD, h]
theorem ready_spec {A : Array Bool} {i : Nat} (hsz : A.size = ops.size) : i ∈ Region.ready .any ops A ↔ ∃ o, ops[i]? = some o ∧ A.getD i false = false ∧ ∀ e ∈ o.after.toList, Region.binds .any e = true → A.getD e.on false = true := by
  unfold Region.ready
  rw [List.mem_filter]
  cases ho : ops[i]? with
  | none => simp
  | some o =>
    simp only [List.mem_range, Option.map_some, Option.getD_some, Bool.and_eq_true, Bool.not_eq_true', Array.all_eq_true_iff_forall_mem, Bool.or_eq_true]
    constructor
    · rintro ⟨hlt, h1, h2⟩
      rw [getD_tf (by omega)] at h1
      exact ⟨o, rfl, h1, fun e he hb => (h2 e (by simpa using he)).resolve_left (by simp [hb])⟩
    · rintro ⟨o', ho', h1, h2⟩
      injection ho' with ho'
      subst ho'
      have hlt := lt_of_get ho
      refine ⟨hlt, by rw [getD_tf (by omega)]; exact h1, fun e he => ?_⟩
      cases hb : Region.binds .any e with
      | true => exact .inr (h2 e (by simpa using he) hb)
      | false => exact .inl rfl

/-- What was read ahead is what would be read now. -/
def Val (P : Program) (ops : Array Oper) (r : Nat) (σ : Nat → Value) (h : Heap) : Prop :=
  ∀ o d, ops[r]? = some o → o.dst = some d → (wantS ops o σ = true → Rd P o σ h (σ d)) ∧ (wantS ops o σ = false → σ d = undef)
structure Inv (P : Program) (ops : Array Oper) (A : Array Bool) (L : Nat) (σa σc : Nat → Value) (h : Heap) : Prop where
  sizeA : A.size = ops.size
  sub : ∀ i, A.getD i false = true → Nat.testBit L i = true
  clA : Cl ops fun i => A.getD i false = true
  clL : Cl ops fun i => Nat.testBit L i = true
  bound : ∀ i, Nat.testBit L i = true → i < ops.size
  pend : ∀ r, Nat.testBit L r = true → A.getD r false = false → nw P ops r = true ∧ Val P ops r σc h
  agr : ∀ t, (∀ r, Nat.testBit L r = true → A.getD r false = false → dstOf ops r ≠ some t) → σa t = σc t

theorem runG_nw {o : Oper} {σ : Nat → Value} {h : Heap} {K : Kont} (hn : nwK P o = true) (hr : runG P ops o σ h K K) :
    ∃ v, K (putS σ o.dst v) h ∧ (wantS ops o σ = true → Rd P o σ h v) ∧ (wantS ops o σ = false → v = undef) := by
  rcases runG_cases hr with ⟨hw, hq⟩ | ⟨hw, hq⟩
  · obtain ⟨v, hk, hv⟩ := nw_ans hn hq
    exact ⟨v, hk, fun _ => hv, fun e => by rw [hw] at e; cases e⟩
  · exact ⟨undef, hq, (fun e => by rw [hw] at e; cases e), fun _ => rfl⟩

section
variable {A : Array Bool} {L : Nat} {σa σc : Nat → Value} {h : Heap}
theorem cl_or {i : Nat} {o : Oper} (hc : Cl ops fun j => Nat.testBit L j = true) (ho : ops[i]? = some o) (hr : ∀ e ∈ o.after.toList, Region.binds .any e = true → Nat.testBit L e.on = true) :
    Cl ops fun j => Nat.testBit (L ||| 2 ^ i) j = true := by
  intro k o' hk ho' e he hb
  rw [tb]
  rcases (tb L i k).1 hk with hk | rfl
  · exact .inl (hc k o' hk ho' e he hb)
  · rw [ho] at ho'; injection ho' with ho'; subst ho'
    exact .inl (hr e he hb)
/-- A slot that is written now is none that something read ahead looks at, or writes. -/
theorem Val.put {r d : Nat} {v : Value} (hv : Val P ops r σc h) (hr : nw P ops r = true)
    (hno : ∀ o', ops[r]? = some o' → ¬ (d ∈ o'.looksAt ops ∨ o'.dst = some d)) : Val P ops r (up σc d v) h := by
  obtain ⟨o', d', ho', hd', hk, _, _⟩ := nw_spec hr
  have h1 := hno o' ho'
  have e1 : ∀ t ∈ o'.looksAt ops, σc t = up σc d v t := fun t ht => (up_ne (fun e => h1 (.inl (by rw [← e]; exact ht)))).symm
  intro o2 d2 ho2 hd2
  rw [ho'] at ho2; injection ho2 with ho2; subst ho2
  rw [hd'] at hd2; injection hd2 with hd2; subst hd2
  have e2 : up σc d v d' = σc d' := up_ne fun e => h1 (.inr (by rw [hd', e]))
  rw [← want_looks e1, e2]
  obtain ⟨a, b⟩ := hv o' d' ho' hd'
  exact ⟨fun hw => (a hw).looks (nwK_sel hk) e1, b⟩
theorem Inv.nwStep {i : Nat} {o : Oper} {K : Kont} (hd : Down ops) (hI : Inv P ops A L σa σc h) (hr : rdy ops L i = true) (hn : nw P ops i = true) (ho : ops[i]? = some o) (hg : runG P ops o σc h K K) :
    ∃ v, Inv P ops A (L ||| 2 ^ i) σa (putS σc o.dst v) h ∧ K (putS σc o.dst v) h := by
  obtain ⟨o', d, ho', hd', hk, hself, hssa⟩ := nw_spec hn
  rw [ho] at ho'; injection ho' with ho'; subst ho'
  obtain ⟨v, hK, hv1, hv2⟩ := runG_nw hk hg
  refine ⟨v, ?_, hK⟩
  obtain ⟨o2, ho2, hni, hed⟩ := rdy_spec.1 hr
  rw [ho] at ho2; injection ho2 with ho2; subst ho2
  rw [hd']
  show Inv P ops A (L ||| 2 ^ i) σa (up σc d v) h
  refine ⟨hI.sizeA, fun j hj => (tb L i j).2 (.inl (hI.sub j hj)), hI.clA, cl_or hI.clL ho hed, fun j hj => ?_, fun r hr1 hr2 => ?_, fun t ht => ?_⟩
  · rcases (tb L i j).1 hj with h1 | rfl
    · exact hI.bound j h1
    · exact lt_of_get ho
  · rcases (tb L i r).1 hr1 with h1 | rfl
    · obtain ⟨ha, hb⟩ := hI.pend r h1 hr2
      refine ⟨ha, hb.put ha fun o' ho' hm => ?_⟩
      have hri : r ≠ i := fun e => by rw [e, hni] at h1; cases h1
      have := bef_in hd hI.clL i r (hssa r o' ho' hri hm) h1
      rw [hni] at this; cases this
    · refine ⟨hn, fun o2 d2 ho2 hd2 => ?_⟩
      rw [ho] at ho2; injection ho2 with ho2; subst ho2
      rw [hd'] at hd2; injection hd2 with hd2; subst hd2
      have e1 : ∀ t ∈ o.looksAt ops, σc t = up σc d v t := fun t ht => (up_ne (fun e => hself (by rw [← e]; exact ht))).symm
      rw [← want_looks e1, up_eq]
      exact ⟨fun hw => (hv1 hw).looks (nwK_sel hk) e1, hv2⟩
  · have hAi : A.getD i false = false := by
      cases e : A.getD i false with
      | true => rw [hI.sub i e] at hni; cases hni
      | false => rfl
    have htd : t ≠ d := fun e => ht i ((tb L i i).2 (.inr rfl)) hAi (by simp [dstOf, ho, hd', e])
    rw [up_ne htd]
    exact hI.agr t fun r h1 h2 => ht r ((tb L i r).2 (.inl h1)) h2
theorem T_norm {K : Kont} (hd : Down ops) : ∀ (f L : Nat) (σc : Nat → Value), Inv P ops A L σa σc h → T P ops f L K σc h →
    ∃ f' L' σc', Inv P ops A L' σa σc' h ∧ nextNW P ops L' = none ∧ T P ops (f' + 1) L' K σc' h
  | 0, L, σc, hI, hT => hT.elim
  | f + 1, L, σc, hI, hT => by
    cases hn : nextNW P ops L with
    | none => exact ⟨f, L, σc, hI, hn, hT⟩
    | some i =>
      unfold T at hT
      simp only [hn] at hT
      have hf := List.find?_some hn
      simp only [Bool.and_eq_true] at hf
      cases ho : ops[i]? with
      | none => rw [ho] at hT; exact hT.elim
      | some o =>
        rw [ho] at hT
        obtain ⟨v, hI', hT'⟩ := hI.nwStep hd hf.1 hf.2 ho hT
        exact T_norm hd f _ _ hI' hT'

theorem fin_ {K : Kont} {f : Nat} (hI : Inv P ops A L σa σc h) (hd : Down ops) (hn : nextNW P ops L = none) (hT : T P ops (f + 1) L K σc h) (hr : Region.ready .any ops A = []) : K σa h := by
  -- nothing is read ahead and not yet met
  have hp : ∀ r, Nat.testBit L r = true → A.getD r false = true := by
    intro r
    induction r using Nat.strongRecOn with
    | _ r ih =>
      intro hL
      cases e : A.getD r false with
      | true => rfl
      | false =>
        exfalso
        obtain ⟨o, ho⟩ : ∃ o, ops[r]? = some o := ⟨ops[r]'(hI.bound r hL), Array.getElem?_eq_getElem (hI.bound r hL)⟩
        have : r ∈ Region.ready .any ops A := (ready_spec hI.sizeA).2 ⟨o, ho, e, fun ed he hb => ih ed.on (hd r o ho ed he hb) (hI.clL r o hL ho ed he hb)⟩
        rw [hr] at this
        cases this
  have hσ : σa = σc := funext fun t => hI.agr t fun r h1 h2 => by rw [hp r h1] at h2; cases h2
  have hf : (List.range ops.size).filter (rdy ops L) = [] := by
    rw [List.filter_eq_nil_iff]
    intro i _ hi
    obtain ⟨o, ho, hni, he⟩ := rdy_spec.1 hi
    have hAi : A.getD i false = false := by
      cases e : A.getD i false with
      | true => rw [hI.sub i e] at hni; cases hni
      | false => rfl
    have : i ∈ Region.ready .any ops A := (ready_spec hI.sizeA).2 ⟨o, ho, hAi, fun ed hed hb => hp _ (he ed hed hb)⟩
    rw [hr] at this
    cases this
  unfold T at hT
  simp only [hn, hf] at hT
  rw [hσ]
  exact hT

theorem allI_mem {f : Nat → Prop} : ∀ {is : List Nat}, allI is f → ∀ i ∈ is, f i
  | [], _, i, hi => by cases hi
  | [j], h, i, hi => by
    have : i = j := by simpa using hi
    subst this; exact h
  | j :: k :: is, h, i, hi => by
    rcases List.mem_cons.1 hi with rfl | hi
    · exact h.1
    · exact allI_mem h.2 i hi
theorem stabs_mem {σ : Nat → Value} {h : Heap} {p : Prop} : ∀ {rs : List Nat}, stabs P ops rs σ h p → (∀ r ∈ rs, stabOp P ops r σ h) ∧ p
  | [], hp => ⟨fun _ h => (by cases h), hp⟩
  | r :: rs, hp => ⟨fun i hi => by
      rcases List.mem_cons.1 hi with rfl | hi
      · exact hp.1
      · exact (stabs_mem hp.2).1 i hi, (stabs_mem hp.2).2⟩
theorem stab_val {r : Nat} {σ : Nat → Value} {h' : Heap} (hr : nw P ops r = true) (hs : stabOp P ops r σ h') {o : Oper} {d : Nat} (ho : ops[r]? = some o) (hd : o.dst = some d)
    (hw : wantS ops o σ = true) : Rd P o σ h' (σ d) := by
  obtain ⟨o', d', ho', _, hk, _, _⟩ := nw_spec hr
  rw [ho] at ho'; injection ho' with ho'; subst ho'
  have key : (opW P o σ h' fun v _ => v = σ d) → Rd P o σ h' (σ d) := fun hq => by
    obtain ⟨v, rfl, hv⟩ := nw_ans hk hq
    exact hv
  unfold stabOp at hs
  simp only [ho, hd] at hs
  unfold wantS at hw
  cases hg : o.guard with
  | none => rw [hg] at hs; exact key hs
  | some g =>
    obtain ⟨j, want⟩ := g
    rw [hg] at hs hw
    simp only at hs hw
    cases hdj : (ops[j]?).bind (·.dst) with
    | none => rw [hdj] at hw; cases hw
    | some dg =>
      rw [hdj] at hs hw
      simp only at hs hw
      split at hs
      · rename_i t ht
        rw [ht] at hw
        simp only [beq_iff_eq] at hw
        rw [if_pos hw] at hs
        exact key hs
      · rename_i hx
        split at hw
        · rename_i t ht; exact absurd ht (hx t)
        · cases hw

theorem get_set {A : Array Bool} {i j : Nat} (hi : i < A.size) : (A.setIfInBounds i true).getD j false = true ↔ A.getD j false = true ∨ j = i := by
  simp only [Array.getD_eq_getD_getElem?]
  by_cases e : i = j
  · subst e
    rw [Array.getElem?_setIfInBounds_self_of_lt hi]
    simp
  · rw [Array.getElem?_setIfInBounds_ne e]
    constructor
    · exact .inl
    · rintro (h | rfl)
      · exact h
      · exact absurd rfl e
theorem get_set_ff {A : Array Bool} {i j : Nat} (hi : i < A.size) (h : (A.setIfInBounds i true).getD j false = false) : A.getD j false = false ∧ j ≠ i := by
  constructor
  · cases e : A.getD j false with
    | false => rfl
    | true => rw [(get_set hi).2 (.inl e)] at h; cases h
  · rintro rfl
    rw [(get_set hi).2 (.inr rfl)] at h; cases h
theorem cl_set {A : Array Bool} {i : Nat} {o : Oper} (hi : i < A.size) (hc : Cl ops fun j => A.getD j false = true) (ho : ops[i]? = some o)
    (hr : ∀ e ∈ o.after.toList, Region.binds .any e = true → A.getD e.on false = true) : Cl ops fun j => (A.setIfInBounds i true).getD j false = true := by
  intro k o' hk ho' e he hb
  rw [get_set hi]
  rcases (get_set hi).1 hk with hk | rfl
  · exact .inl (hc k o' hk ho' e he hb)
  · rw [ho] at ho'; injection ho' with ho'; subst ho'
    exact .inl (hr e he hb)
/-- What an operation that may run now looks at, both frames have alike. -/
theorem Inv.looks {i : Nat} {o : Oper} (hd : Down ops) (hI : Inv P ops A L σa σc h) (ho : ops[i]? = some o) (hAi : A.getD i false = false)
    (hed : ∀ e ∈ o.after.toList, Region.binds .any e = true → A.getD e.on false = true) : ∀ t ∈ o.looksAt ops, σa t = σc t := by
  intro t ht
  refine hI.agr t fun r h1 h2 hr => ?_
  obtain ⟨hn, _⟩ := hI.pend r h1 h2
  obtain ⟨o', d, ho', hd', _, hself, hssa⟩ := nw_spec hn
  have hdt : d = t := by simpa [dstOf, ho', hd'] using hr
  subst hdt
  by_cases e : i = r
  · subst e
    rw [ho] at ho'; injection ho' with ho'; subst ho'
    exact hself ht
  · have := bef_rdy hd hI.clA ho hed (hssa i o ho e (.inl ht))
    rw [h2] at this; cases this
/-- Something read ahead is met. -/
theorem Inv.meet {i : Nat} {o : Oper} {d : Nat} (hI : Inv P ops A L σa σc h) (ho : ops[i]? = some o) (hod : o.dst = some d) (hL : Nat.testBit L i = true)
    (hed : ∀ e ∈ o.after.toList, Region.binds .any e = true → A.getD e.on false = true) : Inv P ops (A.setIfInBounds i true) L (up σa d (σc d)) σc h := by
  have hi : i < A.size := by rw [hI.sizeA]; exact hI.bound i hL
  refine ⟨by simp [hI.sizeA], fun j hj => ?_, cl_set hi hI.clA ho hed, hI.clL, hI.bound, fun r h1 h2 => hI.pend r h1 (get_set_ff hi h2).1, fun t ht => ?_⟩
  · rcases (get_set hi).1 hj with hj | rfl
    · exact hI.sub j hj
    · exact hL
  · by_cases e : t = d
    · subst e; exact up_eq
    · rw [up_ne e]
      refine hI.agr t fun r h1 h2 hr => ?_
      by_cases e2 : r = i
      · subst e2
        exact e (by simpa [dstOf, ho, hod] using hr.symm)
      · refine ht r h1 ?_ hr
        cases e3 : (A.setIfInBounds i true).getD r false with
        | false => rfl
        | true =>
          rcases (get_set hi).1 e3 with e4 | e4
          · rw [e4] at h2; cases h2
          · exact absurd e4 e2
/-- A writing operation runs. -/
theorem Inv.write {i : Nat} {o : Oper} {v : Value} {h' : Heap} (hchk : chk ops = true) (hI : Inv P ops A L σa σc h) (ho : ops[i]? = some o) (hL : Nat.testBit L i = false)
    (hed : ∀ e ∈ o.after.toList, Region.binds .any e = true → A.getD e.on false = true)
    (hval : ∀ r, Nat.testBit L r = true → nw P ops r = true → bef ops r i = false → Val P ops r σc h → Val P ops r (putS σc o.dst v) h') :
    Inv P ops (A.setIfInBounds i true) (L ||| 2 ^ i) (putS σa o.dst v) (putS σc o.dst v) h' := by
  have hi : i < A.size := by rw [hI.sizeA]; exact lt_of_get ho
  have hd := chk_down hchk
  refine ⟨by simp [hI.sizeA], fun j hj => ?_, cl_set hi hI.clA ho hed, cl_or hI.clL ho fun e he hb => hI.sub _ (hed e he hb), fun j hj => ?_, fun r h1 h2 => ?_, fun t ht => ?_⟩
  · rw [tb]
    rcases (get_set hi).1 hj with hj | hj
    · exact .inl (hI.sub j hj)
    · exact .inr hj
  · rcases (tb L i j).1 hj with h1 | rfl
    · exact hI.bound j h1
    · exact lt_of_get ho
  · obtain ⟨h3, h4⟩ := get_set_ff hi h2
    rcases (tb L i r).1 h1 with h1 | h1
    · obtain ⟨ha, hb⟩ := hI.pend r h1 h3
      refine ⟨ha, hval r h1 ha ?_ hb⟩
      cases e : bef ops r i with
      | false => rfl
      | true => have := bef_rdy hd hI.clA ho hed e; rw [h3] at this; cases this
    · exact absurd h1 h4
  · by_cases e : o.dst = some t
    · rw [e]; show up σa t v t = up σc t v t; rw [up_eq, up_eq]
    · rw [putS_ne e, putS_ne e]
      refine hI.agr t fun r h1 h2 hr => ht r ((tb L i r).2 (.inl h1)) ?_ hr
      cases e3 : (A.setIfInBounds i true).getD r false with
      | false => rfl
      | true =>
        rcases (get_set hi).1 e3 with e4 | e4
        · rw [e4] at h2; cases h2
        · rw [e4, hL] at h1; cases h1

def left (A : Array Bool) (n : Nat) : Nat := ((List.range n).filter fun i => !A.getD i false).length
theorem filter_lt {p q : Nat → Bool} {i : Nat} : ∀ (l : List Nat), (∀ x, q x = true → p x = true) → i ∈ l → p i = true → q i = false → (l.filter q).length < (l.filter p).length
  | [], _, hi, _, _ => by cases hi
  | x :: l, hs, hi, hp, hq => by
    have hle : ∀ l : List Nat, (l.filter q).length ≤ (l.filter p).length := by
      intro l
      induction l with
      | nil => simp
      | cons y l ih =>
        by_cases h1 : q y = true
        · rw [List.filter_cons_of_pos h1, List.filter_cons_of_pos (hs y h1)]; simpa using ih
        · rw [List.filter_cons_of_neg h1]
          by_cases h2 : p y = true
          · rw [List.filter_cons_of_pos h2]; simp only [List.length_cons]; omega
          · rw [List.filter_cons_of_neg h2]; exact ih
    rcases List.mem_cons.1 hi with rfl | hi
    · rw [List.filter_cons_of_neg (by simp [hq]), List.filter_cons_of_pos hp]
      have := hle l
      simp only [List.length_cons]; omega
    · have ih := filter_lt l hs hi hp hq
      by_cases h1 : q x = true
      · rw [List.filter_cons_of_pos h1, List.filter_cons_of_pos (hs x h1)]; simpa using ih
      · rw [List.filter_cons_of_neg h1]
        by_cases h2 : p x = true
        · rw [List.filter_cons_of_pos h2]; simp only [List.length_cons]; omega
        · rw [List.filter_cons_of_neg h2]; exact ih
theorem left_set {i n : Nat} (hi : i < n) (hs : A.size = n) (h : A.getD i false = false) : left (A.setIfInBounds i true) n < left A n := by
  refine filter_lt (i := i) _ (fun x hx => ?_) (by simpa using hi) (by simp [h]) ?_
  · simp only [Bool.not_eq_true'] at hx ⊢
    exact (get_set_ff (by omega) hx).1
  · have := (get_set (A := A) (i := i) (j := i) (by omega)).2 (.inr rfl)
    simp [this]
end

theorem T_any {n : Nat} {w₀ : World} {Q : Exit → Act → World → Prop} {K : Kont} {σ₀ : Nat → Value} (hchk : chk ops = true) (hn : ∀ i d, dstOf ops i = some d → d < n)
    (hQ : ∀ σ' a' w', Fr n a' σ' → Env w₀ w' → K σ' w'.heap → Agr (fun t => ∃ i, dstOf ops i = some t) σ₀ σ' → Q .normal a' w') :
    ∀ (fuel : Nat) (A : Array Bool) (L : Nat) (σa σc : Nat → Value) (h : Heap) (a : Act) (w : World) (f : Nat), Inv P ops A L σa σc h → left A ops.size ≤ fuel → T P ops f L K σc h →
      Fr n a σa → w.heap = h → Env w₀ w → Agr (fun t => ∃ i, dstOf ops i = some t) σ₀ σa → wpAny P .any ops Q fuel A a w := by
  have hd := chk_down hchk
  intro fuel
  induction fuel with
  | zero =>
    intro A L σa σc h a w f hI hl hT hf hw hE hag
    have hr : Region.ready .any ops A = [] := by
      rw [List.eq_nil_iff_forall_not_mem]
      intro i hi
      obtain ⟨o, ho, hAi, _⟩ := (ready_spec hI.sizeA).1 hi
      have : i ∈ (List.range ops.size).filter fun i => !A.getD i false := by
        rw [List.mem_filter]; exact ⟨by simpa using lt_of_get ho, by simp [hAi]⟩
      unfold left at hl
      rw [List.eq_nil_of_length_eq_zero (Nat.le_zero.1 hl)] at this
      cases this
    obtain ⟨f', L', σc', hI', hn', hT'⟩ := T_norm hd f L σc hI hT
    exact ⟨hr, hQ σa a w hf hE (by rw [hw]; exact fin_ hI' hd hn' hT' hr) hag⟩
  | succ fuel ih =>
    intro A L σa σc h a w f hI hl hT hf hw hE hag
    obtain ⟨f', L', σc', hI', hn', hT'⟩ := T_norm hd f L σc hI hT
    refine ⟨fun hr => hQ σa a w hf hE (by rw [hw]; exact fin_ hI' hd hn' hT' hr) hag, fun i hi => ?_⟩
    obtain ⟨o, ho, hAi, hed⟩ := (ready_spec hI'.sizeA).1 hi
    have hlk := hI'.looks hd ho hAi hed
    have hil := lt_of_get ho
    have hl' := left_set hil hI'.sizeA hAi
    have hag' : ∀ v, Agr (fun t => ∃ i, dstOf ops i = some t) σ₀ (putS σa o.dst v) := fun v t ht => by
      rw [putS_ne fun e => ht ⟨i, by simp [dstOf, ho, e]⟩]; exact hag t ht
    have hfp : ∀ v, Fr n (a.put o.dst v) (putS σa o.dst v) := fun v => hf.put o.dst (fun d e => hn i d (by simp [dstOf, ho, e])) v
    unfold wpOp
    simp only [ho]
    rw [wanted_eq hf, want_looks hlk]
    cases hLi : Nat.testBit L' i with
    | true =>
      obtain ⟨hnw, hv⟩ := hI'.pend i hLi hAi
      obtain ⟨o', d, ho', hod, hk, _, _⟩ := nw_spec hnw
      rw [ho] at ho'; injection ho' with ho'; subst ho'
      obtain ⟨hv1, hv2⟩ := hv o d ho hod
      have next : ∀ w', Env w w' → w'.heap = h → wpAny P .any ops Q fuel (A.setIfInBounds i true) (a.put o.dst (σc' d)) w' := fun w' hE' hw' => by
        have hm := hI'.meet ho hod hLi hed
        have h1 := hfp (σc' d)
        have h2 := hag' (σc' d)
        rw [hod] at h1 h2 ⊢
        exact ih _ _ _ _ _ _ _ (f' + 1) hm (by omega) hT' h1 hw' (hE.trans hE') h2
      cases hwt : wantS ops o σc' with
      | true =>
        rw [if_pos rfl]
        refine .inl ?_
        obtain ⟨w', hrun, hE', hw'⟩ := (hv1 hwt).1 w hw
        unfold Oper.wp
        rw [hf.eval, exec_looks (nwK_sel hk) hlk, hrun]
        exact next w' hE' hw'
      | false =>
        rw [if_neg (by simp)]
        have := next w (Env.refl w) hw
        rwa [hv2 hwt] at this
    | false =>
      have hrd : rdy ops L' i = true := rdy_spec.2 ⟨o, ho, hLi, fun e he hb => hI'.sub _ (hed e he hb)⟩
      have hmem : i ∈ (List.range ops.size).filter (rdy ops L') := List.mem_filter.2 ⟨by simpa using hil, hrd⟩
      have hall : runG P ops o σc' h (fun σ' h' => stabs P ops (again P ops L' i) σ' h' (T P ops f' (L' ||| 2 ^ i) K σ' h')) (T P ops f' (L' ||| 2 ^ i) K) := by
        have h0 := hT'
        unfold T at h0
        simp only [hn'] at h0
        cases hfl : (List.range ops.size).filter (rdy ops L') with
        | nil => rw [hfl] at hmem; cases hmem
        | cons x xs =>
          rw [hfl] at h0
          have := allI_mem h0 i (by rw [← hfl]; exact hmem)
          simpa only [ho] using this
      -- a slot that is written now is none that was read ahead
      have hno : ∀ r, Nat.testBit L' r = true → nw P ops r = true → bef ops r i = false → ∀ d, o.dst = some d → ∀ o', ops[r]? = some o' → ¬ (d ∈ o'.looksAt ops ∨ o'.dst = some d) := by
        intro r hr _ hb d hod o' ho' hm
        have hri : r ≠ i := fun e => by rw [e, hLi] at hr; cases hr
        rcases chk_slots hchk ho hod ho' hri hm with h1 | h1
        · have := bef_in hd hI'.clL i r h1 hr
          rw [hLi] at this; cases this
        · rw [hb] at h1; cases h1
      have hkeep : ∀ v r, Nat.testBit L' r = true → nw P ops r = true → bef ops r i = false → Val P ops r σc' h → Val P ops r (putS σc' o.dst v) h := by
        intro v r h1 h2 h3 h4
        cases hod : o.dst with
        | none => exact h4
        | some d => exact h4.put h2 (hno r h1 h2 h3 d hod)
      rcases runG_cases hall with ⟨hwt, hq⟩ | ⟨hwt, hq⟩
      · rw [hwt, if_pos rfl]
        refine .inl ?_
        unfold Oper.wp
        rw [hf.eval, exec_looks (opW_sel hq) hlk]
        refine upon_done (opW_done hq w hw) fun v w' hE' hK => ?_
        obtain ⟨hst, hT2⟩ := stabs_mem hK
        refine ih _ _ _ _ _ _ _ f' (hI'.write (v := v) hchk ho hLi hed fun r h1 h2 h3 h4 => ?_) (by omega) hT2 (hfp v) rfl (hE.trans hE') (hag' v)
        have h5 := hkeep v r h1 h2 h3 h4
        intro o2 d2 ho2 hd2
        obtain ⟨h6, h7⟩ := h5 o2 d2 ho2 hd2
        refine ⟨fun hw2 => ?_, h7⟩
        cases hns : ns P o2 with
        | false => exact ⟨(h6 hw2).2 hns w'.heap, (h6 hw2).2⟩
        | true =>
          refine stab_val h2 (hst r ?_) ho2 hd2 hw2
          unfold again
          rw [List.mem_filter]
          refine ⟨by simpa using hI'.bound r h1, ?_⟩
          simp [h1, h2, h3, nsI, ho2, hns]
      · rw [hwt, if_neg (by simp)]
        exact ih _ _ _ _ _ _ _ f' (hI'.write (v := undef) hchk ho hLi hed fun r h1 h2 h3 h4 => hkeep undef r h1 h2 h3 h4) (by omega) hq (hfp undef) hw hE (hag' undef)

theorem T_sound {n : Nat} {w₀ : World} {Q : Exit → Act → World → Prop} {K : Kont} {σ : Nat → Value} {h : Heap} {a : Act} {w : World} {id : Nat} {f : Nat} (hm : P.follows .mixedOrders = true) (hchk : chk ops = true)
    (hn : ∀ i d, dstOf ops i = some d → d < n) (hT : T P ops f 0 K σ h) (hf : Fr n a σ) (hw : w.heap = h) (hE : Env w₀ w)
    (hQ : ∀ σ' a' w', Fr n a' σ' → Env w₀ w' → K σ' w'.heap → Agr (fun t => ∃ i, dstOf ops i = some t) σ σ' → Q .normal a' w') : (Code.region id ops true).wp P Q a w := by
  refine wp_region_any hm ?_
  have h0 : ∀ i, (Array.replicate ops.size false).getD i false = false := fun i => by
    rw [Array.getD_eq_getD_getElem?, Array.getElem?_replicate]
    split <;> rfl
  refine T_any hchk hn hQ ops.size _ 0 σ σ h a _ f ⟨by simp, fun i hi => ?_, fun k o hk => ?_, fun k o hk => ?_, fun i hi => ?_, fun r hr => ?_, fun _ _ => rfl⟩ ?_ hT hf hw ⟨hE.os, hE.tape, hE.output⟩ (fun _ _ => rfl)
  · rw [h0] at hi; cases hi
  · have hk' : (Array.replicate ops.size false).getD k false = true := hk
    rw [h0] at hk'; cases hk'
  · simp at hk
  · simp at hi
  · simp at hr
  · unfold left
    exact Nat.le_trans (List.length_filter_le _ _) (by simp)
end
end Go.Proofs.YtniojdaddolnfaaGreat

/-
  A function's whole body as a predicate: loops ask an invariant and a measure, ways that meet again ask what holds there.
-/
namespace Go.Proofs.YtniojdaddolnfaaGreat
open Go

def memN : List Nat → Nat → Bool
  | [], _ => false
  | d :: l, t => cond (Nat.beq t d) true (memN l t)
theorem memN_iff (l : List Nat) (t : Nat) : memN l t = true ↔ t ∈ l := by
  induction l with
  | nil => simp [memN]
  | cons d l ih =>
    unfold memN
    cases e : Nat.beq t d with
    | true => have : t = d := Nat.eq_of_beq_eq_true e
              simp [this]
    | false =>
      have : t ≠ d := fun x => by rw [x] at e; simp at e
      simp [ih, this]
/-- What a loop's body may have turned, forgotten. -/
def mix (m : List Nat) (τ σ : Nat → Value) : Nat → Value := fun t => cond (memN m t) (τ t) (σ t)
theorem mix_agr {m : List Nat} {σ σ' : Nat → Value} (h : Agr (· ∈ m) σ σ') : mix m σ' σ = σ' := by
  funext t
  unfold mix
  cases e : memN m t with
  | true => rfl
  | false => exact (h t fun hm => by rw [(memN_iff m t).2 hm] at e; cases e).symm
abbrev Slots := List (Nat × Sh)
def Slots.sh (sl : Slots) : List Sh := sl.map (·.2)
def getS : (sl : Slots) → (Nat → Value) → (HL sl.sh → Prop) → Prop
  | [], _, K => K ()
  | (d, s) :: sl, σ, K => s.get (σ d) fun x => getS sl σ fun y => K (x, y)
def setS : (sl : Slots) → (Nat → Value) → HL sl.sh → Nat → Value
  | [], σ, _ => σ
  | (d, s) :: sl, σ, x => up (setS sl σ x.2) d (s.mk x.1)
theorem getS_spec : ∀ (sl : Slots) (σ : Nat → Value) (K : HL sl.sh → Prop), getS sl σ K → ∃ x, K x ∧ setS sl σ x = σ
  | [], _, _, h => ⟨(), h, rfl⟩
  | (d, s) :: sl, σ, K, h => by
    obtain ⟨x, e1, h1⟩ := s.get_spec _ _ h
    obtain ⟨y, h2, e2⟩ := getS_spec sl σ _ h1
    refine ⟨(x, y), h2, ?_⟩
    show up (setS sl σ y) d (s.mk x) = σ
    rw [e2, ← e1, up_self]

/-- A loop: whoever proves it gives what holds at each round's head, and a number that falls. -/
def Loop (ss : List Sh) (body : (Nat → Value) → TH (Heap → TH (Heap → Prop) ss → Prop) ss) (x₀ : HL ss) (h₀ : Heap) : Prop :=
  ∃ (I : TH (Heap → Prop) ss) (μ : TH (Heap → Nat) ss), TH.un ss I x₀ h₀ ∧
    ∀ τ x h, TH.un ss I x h → TH.un ss (body τ) x h (TH.cu ss fun x' h' => TH.un ss I x' h' ∧ TH.un ss μ x' h' < TH.un ss μ x h)
/-- Ways that meet again: whoever proves it gives what holds where they meet. -/
def Join (ss : List Sh) (rest : (Nat → Value) → TH (Heap → Prop) ss) (body : TH (Heap → Prop) ss → Prop) : Prop :=
  ∃ J : TH (Heap → Prop) ss, (∀ τ x h, TH.un ss J x h → TH.un ss (rest τ) x h) ∧ body J

def annOf : List (Nat × Slots) → Nat → Option Slots
  | [], _ => none
  | (q, sl) :: l, p => cond (Nat.beq p q) (some sl) (annOf l p)
def lookE : List (Nat × Kont) → Nat → Kont
  | [], _ => fun _ _ => False
  | (i, K) :: E, id => cond (Nat.beq id i) K (lookE E id)
def mods : Code → List Nat
  | .region _ ops _ => ops.toList.filterMap (·.dst)
  | .seq a b => mods a ++ mods b
  | .cond _ a b => mods a ++ mods b
  | .block _ c => mods c
  | .loop c => mods c
  | _ => []
def joinW (an : Option Slots) (m : List Nat) (K : Kont) (σ : Nat → Value) (body : Kont → Prop) : Prop :=
  match an with
  | none => body K
  | some sl => Join sl.sh (fun τ => TH.cu sl.sh fun x => fun h => K (setS sl (mix m τ σ) x) h) fun J => body fun σ' h' => getS sl σ' fun x => TH.un sl.sh J x h'

section
variable (P : Program) (an : List (Nat × Slots))
def V : Code → Nat → List (Nat × Kont) → Kont → Kont → Kont
  | .skip, _, _, _, K => K
  | .label _, _, _, _, K => K
  | .region _ ops draw, p, _, _, K => fun σ h => joinW (annOf an p) (ops.toList.filterMap (·.dst)) K σ fun K' =>
    cond draw (cond (chk ops) (T P ops (ops.size + 1) 0 K' σ h) False) (X P ops ops.toList K' σ h)
  | .seq a b, p, E, R, K => V a (2 * p) E R (V b (2 * p + 1) E R K)
  | .cond c a b, p, E, R, K => fun σ h => joinW (annOf an p) (mods a ++ mods b) K σ fun K' => match evS σ c with
    | .bool t => cond t (V a (2 * p) E R K' σ h) (V b (2 * p + 1) E R K' σ h)
    | _ => False
  | .block id c, p, E, R, K => fun σ h => joinW (annOf an p) (mods c) K σ fun K' => V c (2 * p) ((id, K') :: E) R K' σ h
  | .loop c, p, E, R, _ => fun σ h => match annOf an p with
    | none => False
    | some sl => getS sl σ fun x₀ => Loop sl.sh (fun τ => TH.cu sl.sh fun x => fun h rec => V c (2 * p) E R (fun σ' h' => getS sl σ' fun x' => TH.un sl.sh rec x' h') (setS sl (mix (mods c) τ σ) x) h) x₀ h
  | .exit id, _, E, _, _ => lookE E id
  | .ret, _, _, R, _ => R
  | _, _, _, _, _ => fun _ _ => False

def Post (n : Nat) (w₀ : World) (E : List (Nat × Kont)) (R K : Kont) (m : List Nat) (σ : Nat → Value) : Exit → Act → World → Prop
  | .normal, a, w => Env w₀ w ∧ ∃ σ', Fr n a σ' ∧ K σ' w.heap ∧ Agr (· ∈ m) σ σ'
  | .exit id, a, w => Env w₀ w ∧ ∃ σ', Fr n a σ' ∧ lookE E id σ' w.heap ∧ Agr (· ∈ m) σ σ'
  | .ret, a, w => Env w₀ w ∧ ∃ σ', Fr n a σ' ∧ R σ' w.heap
  | _, _, _ => False
theorem Agr.trans {m m' : Nat → Prop} {a b c : Nat → Value} (h : Agr m a b) (k : Agr m' b c) : Agr (fun t => m t ∨ m' t) a c :=
  fun t ht => (k t fun x => ht (.inr x)).trans (h t fun x => ht (.inl x))
theorem Agr.mono {m m' : Nat → Prop} {a b : Nat → Value} (h : Agr m a b) (hm : ∀ t, m t → m' t) : Agr m' a b := fun t ht => h t fun x => ht (hm t x)

variable {P an}
theorem join_sound {n : Nat} {w₀ : World} {E : List (Nat × Kont)} {R K : Kont} {m : List Nat} {σ : Nat → Value} {ann : Option Slots} {body : Kont → Prop} {G : (Kont → Prop) → Prop}
    (hj : joinW ann m K σ body) (hb : ∀ K', body K' → (∀ e a w, Post n w₀ E R K' m σ e a w → Post n w₀ E R K m σ e a w) → G body) : G body := by
  unfold joinW at hj
  split at hj
  · exact hb K hj fun _ _ _ h => h
  · rename_i sl
    obtain ⟨J, hJ, hbody⟩ := hj
    refine hb _ hbody fun e a w hp => ?_
    cases e with
    | normal =>
      obtain ⟨hE, σ', hf, hk, hag⟩ := hp
      obtain ⟨x, hx, hs⟩ := getS_spec sl σ' _ hk
      have := hJ σ' x _ hx
      rw [TH.un_cu, mix_agr hag, hs] at this
      exact ⟨hE, σ', hf, this, hag⟩
    | exit id => exact hp
    | ret => exact hp
    | _ => exact hp

theorem V_sound {n : Nat} {w₀ : World} (hm : P.follows .mixedOrders = true) : ∀ (c : Code) (p : Nat) (E : List (Nat × Kont)) (R K : Kont) (σ : Nat → Value) (h : Heap) (a : Act) (w : World),
    V P an c p E R K σ h → Fr n a σ → w.heap = h → Env w₀ w → (∀ d ∈ mods c, d < n) → c.wp P (Post n w₀ E R K (mods c) σ) a w := by
  intro c
  induction c with
  | skip => intro p E R K σ h a w hv hf hw hE _; exact wp_skip ⟨hE, σ, hf, by rw [hw]; exact hv, fun _ _ => rfl⟩
  | label l => intro p E R K σ h a w hv hf hw hE _; exact wp_label ⟨hE, σ, hf, by rw [hw]; exact hv, fun _ _ => rfl⟩
  | ret => intro p E R K σ h a w hv hf hw hE _; exact wp_ret ⟨hE, σ, hf, by rw [hw]; exact hv⟩
  | exit id => intro p E R K σ h a w hv hf hw hE _; exact wp_exit ⟨hE, σ, hf, by rw [hw]; exact hv, fun _ _ => rfl⟩
  | goto l => intro p E R K σ h a w hv; exact hv.elim
  | refuse s => intro p E R K σ h a w hv; exact hv.elim
  | scope c => intro p E R K σ h a w hv; exact hv.elim
  | rangeFunc f ps x y => intro p E R K σ h a w hv; exact hv.elim
  | region id ops draw =>
    intro p E R K σ h a w hv hf hw hE hd
    have hdn : ∀ i d, dstOf ops i = some d → d ∈ mods (.region id ops draw) := fun i d hi => by
      obtain ⟨o, ho, hod⟩ := Option.bind_eq_some_iff.1 hi
      have : o ∈ ops.toList := by rw [Array.mem_toList_iff]; exact Array.mem_of_getElem? ho
      exact List.mem_filterMap.2 ⟨o, this, hod⟩
    simp only [V] at hv
    refine join_sound (n := n) (w₀ := w₀) (E := E) (R := R) (G := fun _ => Code.wp P (.region id ops draw) (Post n w₀ E R K (mods (.region id ops draw)) σ) a w) hv fun K' hb hk => ?_
    refine wp_mono (Q := Post n w₀ E R K' (mods (.region id ops draw)) σ) ?_ hk
    cases draw with
    | true =>
      simp only [cond_true] at hb
      cases hc : chk ops with
      | false => rw [hc] at hb; exact hb.elim
      | true =>
        rw [hc] at hb
        refine T_sound hm hc (fun i d hi => hd d (hdn i d hi)) hb hf hw hE fun σ' a' w' hf' hE' hK hag => ?_
        exact ⟨hE', σ', hf', hK, hag.mono fun t ⟨i, hi⟩ => hdn i t hi⟩
    | false =>
      simp only [cond_false] at hb
      refine wp_region_list (X_sound ops.toList σ h a w hb hf hw hE (fun o ho d hod => hd d (List.mem_filterMap.2 ⟨o, ho, hod⟩)) fun σ' a' w' hf' hE' hK hag => ?_)
      exact ⟨hE', σ', hf', hK, hag.mono fun t ⟨o, ho, hod⟩ => List.mem_filterMap.2 ⟨o, ho, hod⟩⟩
  | seq x y ihx ihy =>
    intro p E R K σ h a w hv hf hw hE hd
    refine wp_seq (wp_mono (ihx (2 * p) E R (V P an y (2 * p + 1) E R K) σ h a w hv hf hw hE fun d hx => hd d (List.mem_append_left _ hx)) fun e a' w' hp => ?_)
    cases e with
    | normal =>
      obtain ⟨hE', σ', hf', hk, hag⟩ := hp
      refine wp_mono (ihy (2 * p + 1) E R K σ' _ a' w' hk hf' rfl hE' fun d hx => hd d (List.mem_append_right _ hx)) fun e2 a2 w2 hp2 => ?_
      cases e2 with
      | normal =>
        obtain ⟨hE2, σ2, hf2, hk2, hag2⟩ := hp2
        exact ⟨hE2, σ2, hf2, hk2, (hag.trans hag2).mono fun t ht => List.mem_append.2 ht⟩
      | exit id =>
        obtain ⟨hE2, σ2, hf2, hk2, hag2⟩ := hp2
        exact ⟨hE2, σ2, hf2, hk2, (hag.trans hag2).mono fun t ht => List.mem_append.2 ht⟩
      | ret => exact hp2
      | _ => exact hp2.elim
    | exit id =>
      obtain ⟨hE', σ', hf', hk, hag⟩ := hp
      exact ⟨hE', σ', hf', hk, hag.mono fun t ht => List.mem_append_left _ ht⟩
    | ret => exact hp
    | _ => exact hp.elim
  | cond c x y ihx ihy =>
    intro p E R K σ h a w hv hf hw hE hd
    simp only [V] at hv
    refine join_sound (n := n) (w₀ := w₀) (E := E) (R := R) (G := fun _ => Code.wp P (.cond c x y) (Post n w₀ E R K (mods x ++ mods y) σ) a w) hv fun K' hb hk => ?_
    refine wp_mono (Q := Post n w₀ E R K' (mods x ++ mods y) σ) ?_ hk
    split at hb
    · rename_i t ht
      refine wp_cond (t := t) (by rw [hf.eval]; exact ht) ?_
      have mono : ∀ (m : List Nat), (∀ d ∈ m, d ∈ mods x ++ mods y) → ∀ e a w, Post n w₀ E R K' m σ e a w → Post n w₀ E R K' (mods x ++ mods y) σ e a w := fun m hmm e a w hp => by
        cases e with
        | normal => obtain ⟨h1, h2, h3, h4, h5⟩ := hp; exact ⟨h1, h2, h3, h4, h5.mono hmm⟩
        | exit id => obtain ⟨h1, h2, h3, h4, h5⟩ := hp; exact ⟨h1, h2, h3, h4, h5.mono hmm⟩
        | ret => exact hp
        | _ => exact hp.elim
      cases t with
      | true => exact wp_mono (ihx _ E R K' σ h a w hb hf hw hE fun d hx => hd d (List.mem_append_left _ hx)) (mono _ fun d hx => List.mem_append_left _ hx)
      | false => exact wp_mono (ihy _ E R K' σ h a w hb hf hw hE fun d hx => hd d (List.mem_append_right _ hx)) (mono _ fun d hx => List.mem_append_right _ hx)
    · exact hb.elim
  | block id c ih =>
    intro p E R K σ h a w hv hf hw hE hd
    simp only [V] at hv
    refine join_sound (n := n) (w₀ := w₀) (E := E) (R := R) (G := fun _ => Code.wp P (.block id c) (Post n w₀ E R K (mods c) σ) a w) hv fun K' hb hk => ?_
    refine wp_mono (Q := Post n w₀ E R K' (mods c) σ) ?_ hk
    refine wp_block (wp_mono (ih _ ((id, K') :: E) R K' σ h a w hb hf hw hE hd) fun e a' w' hp => ?_)
    cases e with
    | normal => exact hp
    | exit id' =>
      obtain ⟨hE', σ', hf', hk', hag⟩ := hp
      simp only [Exit.inBlock]
      by_cases e : id' = id
      · subst e
        rw [if_pos rfl]
        have e1 : Nat.beq id' id' = true := by simp
        simp only [lookE, e1, cond_true] at hk'
        exact ⟨hE', σ', hf', hk', hag⟩
      · rw [if_neg e]
        simp only [lookE, beq_ff e, cond_false] at hk'
        exact ⟨hE', σ', hf', hk', hag⟩
    | ret => exact hp
    | _ => exact hp.elim
  | loop c ih =>
    intro p E R K σ h a w hv hf hw hE hd
    simp only [V] at hv
    split at hv
    · exact hv.elim
    · rename_i sl _
      obtain ⟨x₀, ⟨I, μ, h0, hround⟩, hs0⟩ := getS_spec sl σ _ hv
      subst hw
      let J : Nat → Act → World → Prop := fun k a w => Env w₀ w ∧ ∃ σ' x, Fr n a σ' ∧ Agr (· ∈ mods c) σ σ' ∧ setS sl σ' x = σ' ∧ TH.un sl.sh I x w.heap ∧ TH.un sl.sh μ x w.heap = k
      refine wp_loop_ghost J _ ⟨hE, σ, x₀, hf, fun _ _ => rfl, hs0, h0, rfl⟩ fun k a w hJ => ?_
      obtain ⟨hE', σ', x, hf', hag, hs, hI, hμ⟩ := hJ
      have hb := hround σ' x _ hI
      rw [TH.un_cu, mix_agr hag, hs] at hb
      refine wp_mono (ih _ E R _ σ' _ a w hb hf' rfl hE' hd) fun e a2 w2 hp => ?_
      cases e with
      | normal =>
        obtain ⟨hE2, σ2, hf2, hk2, hag2⟩ := hp
        obtain ⟨x2, hx2, hs2⟩ := getS_spec sl σ2 _ hk2
        rw [TH.un_cu] at hx2
        exact ⟨_, by rw [← hμ]; exact hx2.2, hE2, σ2, x2, hf2, (hag.trans hag2).mono fun t ht => ht.elim (fun x => x) fun x => x, hs2, hx2.1, rfl⟩
      | exit id =>
        obtain ⟨hE2, σ2, hf2, hk2, hag2⟩ := hp
        exact ⟨hE2, σ2, hf2, hk2, (hag.trans hag2).mono fun t ht => ht.elim (fun x => x) fun x => x⟩
      | ret => exact hp
      | _ => exact hp.elim
end

/-! ## A function -/
/-- What a body hands back, read by the results' shapes. -/
def getR : (ss : List Sh) → List Value → (HL ss → Prop) → Prop
  | [], [], K => K ()
  | s :: ss, v :: vs, K => s.get v fun x => getR ss vs fun y => K (x, y)
  | _, _, _ => False
theorem getR_spec : ∀ (ss : List Sh) (vs : List Value) (K : HL ss → Prop), getR ss vs K → ∃ x, vs = HL.vals ss x ∧ K x
  | [], [], _, h => ⟨(), rfl, h⟩
  | [], _ :: _, _, h => h.elim
  | _ :: _, [], _, h => h.elim
  | s :: ss, v :: vs, K, h => by
    obtain ⟨x, e1, h1⟩ := s.get_spec _ _ h
    obtain ⟨y, e2, h2⟩ := getR_spec ss vs _ h1
    exact ⟨(x, y), by rw [e1, e2]; rfl, h2⟩
def tmpsOf : List ResultVar → Option (List Nat)
  | [] => some []
  | .tmp t :: rs => (tmpsOf rs).map (t :: ·)
  | _ :: _ => none
def argS (args : List Value) : Nat → Value := fun t => args.getD t undef
/-- The whole of a function: its code, from its arguments on. -/
def VF (P : Program) (an : List (Nat × Slots)) (fn : Func) (args : List Value) (h : Heap) (ss : List Sh) (R : TH (Heap → Prop) ss) : Prop :=
  match fn.body with
  | none => False
  | some c => match tmpsOf fn.results.toList with
    | none => False
    | some rs =>
      let K : Kont := fun σ h' => getR ss (rs.map σ) fun x => TH.un ss R x h'
      V P an c 1 [] K K (argS args) h
def resF (tmps : Array Value) : ResultVar → Sem Value
  | .tmp t => pure (tmps.getD t undef)
  | .cell a t => do loadVar t (← asAddr (tmps.getD a undef))
theorem results_eq (fn : Func) (tmps : Array Value) : results fn tmps = (do
    let vs ← fn.results.mapM (resF tmps)
    pure (if h : vs.size = 1 then vs[0] else .tuple vs)) := by
  unfold results
  congr 1
theorem mapM_tmps {tmps : Array Value} {σ : Nat → Value} (hσ : ∀ t, tmps.getD t undef = σ t) {P : Program} (w : World) : ∀ (l : List ResultVar) (rs : List Nat), tmpsOf l = some rs →
    (l.mapM (resF tmps)).run P w = .ok (rs.map σ) w
  | [], rs, h => by simp only [tmpsOf, Option.some.injEq] at h; subst h; simp
  | .cell a t :: l, rs, h => by simp [tmpsOf] at h
  | .tmp t :: l, rs, h => by
    simp only [tmpsOf, Option.map_eq_some_iff] at h
    obtain ⟨rs', h', rfl⟩ := h
    simp only [List.mapM_cons, Sem.run_bind, mapM_tmps hσ w l rs' h', resF, Sem.run_pure, Result.andThen_ok, List.map_cons, hσ]
theorem results_vals {fn : Func} {rs : List Nat} (hrs : tmpsOf fn.results.toList = some rs) {tmps : Array Value} {σ : Nat → Value} (hσ : ∀ t, tmps.getD t undef = σ t) {P : Program} (w : World) {ss : List Sh} {x : HL ss}
    (hx : rs.map σ = HL.vals ss x) : (results fn tmps).run P w = .ok (retV ss x) w := by
  have h1 : (fn.results.mapM (resF tmps)).run P w = .ok (rs.map σ).toArray w := by
    have e : fn.results = fn.results.toList.toArray := rfl
    rw [e, List.mapM_toArray, Sem.run_map, mapM_tmps hσ w _ rs hrs]
    rfl
  rw [results_eq, Sem.run_bind, h1, hx]
  match ss, x with
  | [], _ => rfl
  | [s], x => rfl
  | s :: t :: ss, x =>
    simp only [Result.andThen_ok]
    rw [dif_neg (by simp [HL.vals])]
    rfl

theorem argS_at (args : List Value) (n t : Nat) : ((⟨args⟩ : Array Value) ++ Array.replicate n undef).getD t undef = argS args t := by
  unfold argS
  rw [Array.getD_eq_getD_getElem?, List.getD_eq_getElem?_getD]
  by_cases h : t < args.length
  · rw [Array.getElem?_append_left (by simpa using h)]; simp
  · rw [Array.getElem?_append_right (by simpa using h), Array.getElem?_replicate, List.getElem?_eq_none (by omega)]
    split <;> rfl
def codeOk (fn : Func) (k : Nat) : Bool :=
  match fn.body with
  | none => false
  | some c => (mods c).all (fun d => decide (d < fn.ntmps)) && decide (k ≤ fn.ntmps)
theorem VF_sound {P : Program} {an : List (Nat × Slots)} {f : FuncId} {fn : Func} {args : List Value} {h : Heap} {ss : List Sh} {R : TH (Heap → Prop) ss} (hm : P.follows .mixedOrders = true) (hf : P.funcs[f]? = some fn)
    (hok : codeOk fn args.length = true) (hv : VF P an fn args h ss R) : CallR P f args h ss R := by
  intro w hw
  unfold VF at hv
  split at hv
  · exact hv.elim
  · rename_i c hc
    split at hv
    · exact hv.elim
    · rename_i rs hrs
      simp only [codeOk, hc, Bool.and_eq_true, List.all_eq_true, decide_eq_true_eq] at hok
      refine calls_of_wp hf hc (wp_mono (V_sound (n := fn.ntmps) (w₀ := w) hm c 1 [] _ _ (argS args) h _ w hv ⟨?_, rfl, fun t => argS_at args _ t⟩ hw (Env.refl w) hok.1) fun e a' w' hp => ?_)
      · have := hok.2
        simp; omega
      have fin : ∀ σ', Fr fn.ntmps a' σ' → (getR ss (rs.map σ') fun x => TH.un ss R x w'.heap) → Env w w' → a'.defers = [] ∧ ∃ v, (results fn a'.tmps).run P w' = .ok v w' ∧ (Env w w' ∧ ∃ x, Ending.returned v = .returned (retV ss x) ∧ TH.un ss R x w'.heap) := fun σ' hfr hr hE => by
        obtain ⟨x, e1, h1⟩ := getR_spec ss _ _ hr
        exact ⟨hfr.defers, _, results_vals hrs hfr.at_ w' e1, hE, x, rfl, h1⟩
      cases e with
      | normal => obtain ⟨hE, σ', hfr, hk, _⟩ := hp; exact fin σ' hfr hk hE
      | ret => obtain ⟨hE, σ', hfr, hk⟩ := hp; exact fin σ' hfr hk hE
      | exit id => obtain ⟨_, σ', _, hk, _⟩ := hp; exact hk.elim
      | _ => exact hp.elim

/-! ## Words for the printed bodies -/
def Let {α : Type} (x : α) (K : α → Prop) : Prop := K x
def Alloc (h : Heap) (o : Obj) (K : Addr → Heap → Prop) : Prop := K ⟨h.size, 0, none⟩ (h.push o)
def App (P : Program) (t ty : TypeId) (s x : Sl) (h : Heap) (K : Sl → Heap → Prop) : Prop := OpT P (Builtin.append_ #[t, t] ty #[.slice s.a s.n s.c, .slice x.a x.n x.c]) h [.one .sl] K
def Cut (P : Program) (t : TypeId) (s : Sl) (lo hi mx : Option Value) (K : Sl → Prop) : Prop := OpP P (Instr.sliceAt t (.slice s.a s.n s.c) lo hi mx) [.one .sl] K
def CutS (P : Program) (t : TypeId) (s : ByteArray) (lo hi : Option Value) (K : ByteArray → Prop) : Prop := OpP P (Instr.sliceAt t (.string s) lo hi none) [.one .str] K
def ToS (P : Program) (t u : TypeId) (s : Sl) (h : Heap) (K : ByteArray → Prop) : Prop := OpV P (convert t u (.slice s.a s.n s.c)) h [.one .str] K
def ToB (P : Program) (t u : TypeId) (s : ByteArray) (h : Heap) (K : Sl → Heap → Prop) : Prop := OpT P (convert t u (.string s)) h [.one .sl] K
def Frz (P : Program) (t u : TypeId) (s : Sl) (h : Heap) (K : Sl → Heap → Prop) : Prop := OpT P (convert t u (.slice s.a s.n s.c)) h [.one .sl] K
def Mk (P : Program) (t : TypeId) (l c : Int) (h : Heap) (K : Sl → Heap → Prop) : Prop := OpT P (Instr.makeSlice t (.int .i64 l) (.int .i64 c)) h [.one .sl] K
def bitV (op : BinOp) (k : IntKind) (x y : Int) : Int :=
  k.wrap (match op with
    | .and => BitVec.ofInt k.bits x &&& BitVec.ofInt k.bits y
    | .or => BitVec.ofInt k.bits x ||| BitVec.ofInt k.bits y
    | .xor => BitVec.ofInt k.bits x ^^^ BitVec.ofInt k.bits y
    | _ => BitVec.ofInt k.bits x &&& ~~~ BitVec.ofInt k.bits y).toNat
def zc (P : Program) (t : TypeId) : Array Value :=
  match (P.info? t).bind (·.zero) with
  | some v => v.cells
  | none => #[]
end Go.Proofs.YtniojdaddolnfaaGreat

/-
  Words for contracts: what is kept of a heap, slices that are read, slices that may be written, and what each primitive asks, as rules to be applied.
-/
namespace Go.Proofs.YtniojdaddolnfaaGreat
open Go

/-! ## What is kept -/
/-- Blocks outside F that were there are as they were. -/
structure Upd (F : Nat → Prop) (h h' : Heap) : Prop where
  size : h.size ≤ h'.size
  keep : ∀ k, k < h.size → ¬ F k → h'[k]? = h[k]?
theorem Upd.refl (F : Nat → Prop) (h : Heap) : Upd F h h := ⟨Nat.le_refl _, fun _ _ _ => rfl⟩
theorem Upd.trans {F G H : Nat → Prop} {a b c : Heap} (h1 : Upd F a b) (h2 : Upd G b c) (hf : ∀ k, k < a.size → F k → H k) (hg : ∀ k, k < a.size → G k → H k) : Upd H a c :=
  ⟨Nat.le_trans h1.size h2.size, fun k hk hn => by
    rw [h2.keep k (Nat.lt_of_lt_of_le hk h1.size) fun x => hn (hg k hk x), h1.keep k hk fun x => hn (hf k hk x)]⟩
theorem Upd.mono {F G : Nat → Prop} {a b : Heap} (h : Upd F a b) (hf : ∀ k, k < a.size → F k → G k) : Upd G a b := ⟨h.size, fun k hk hn => h.keep k hk fun x => hn (hf k hk x)⟩
/-- Nothing below B is turned. -/
def Ext (B : Nat) (h h' : Heap) : Prop := h.size ≤ h'.size ∧ ∀ k, k < B → h'[k]? = h[k]?
theorem Ext.refl (B : Nat) (h : Heap) : Ext B h h := ⟨Nat.le_refl _, fun _ _ => rfl⟩
theorem Ext.trans {B : Nat} {a b c : Heap} (h1 : Ext B a b) (h2 : Ext B b c) : Ext B a c := ⟨Nat.le_trans h1.1 h2.1, fun k hk => (h2.2 k hk).trans (h1.2 k hk)⟩
theorem Ext.mono {B B' : Nat} {a b : Heap} (h : Ext B a b) (hB : B' ≤ B) : Ext B' a b := ⟨h.1, fun k hk => h.2 k (Nat.lt_of_lt_of_le hk hB)⟩
theorem Upd.ext {F : Nat → Prop} {a b : Heap} {B : Nat} (h : Upd F a b) (hB : B ≤ a.size) (hf : ∀ k, k < B → ¬ F k) : Ext B a b := ⟨h.size, fun k hk => h.keep k (Nat.lt_of_lt_of_le hk hB) (hf k hk)⟩
theorem Ext.upd {a b : Heap} (h : Ext a.size a b) (F : Nat → Prop) : Upd F a b := ⟨h.1, fun k hk _ => h.2 k hk⟩
theorem ext_push (h : Heap) (o : Obj) {B : Nat} (hB : B ≤ h.size) : Ext B h (h.push o) := ⟨by simp, fun k hk => by rw [Array.getElem?_push, if_neg (by omega)]⟩
theorem setH_get (h : Heap) (a : Addr) (v : Value) {k : Nat} (hk : k ≠ a.block) : (setH h a v)[k]? = h[k]? := by
  show (((mkW h).setCell a v).heap)[k]? = h[k]?
  simp only [World.setCell, Array.getElem?_modify]
  rw [if_neg (fun e => hk e.symm)]
  rfl
theorem setH_size (h : Heap) (a : Addr) (v : Value) : (setH h a v).size = h.size := by
  show (((mkW h).setCell a v).heap).size = h.size
  simp [World.setCell, mkW]
theorem cellH_eq {h h' : Heap} {a : Addr} (e : h'[a.block]? = h[a.block]?) : cellH h' a = cellH h a := by
  show (mkW h').cell? a = (mkW h).cell? a
  simp [World.cell?, mkW, e]
theorem frozenH_eq {h h' : Heap} {a : Addr} (e : h'[a.block]? = h[a.block]?) : frozenH h' a = frozenH h a := by
  show (mkW h').frozen? a = (mkW h).frozen? a
  simp [World.frozen?, mkW, e]
theorem lt_of_cell {h : Heap} {a : Addr} {v : Value} (hc : cellH h a = some v) : a.block < h.size := by
  rcases Nat.lt_or_ge a.block h.size with h1 | h1
  · exact h1
  · have e : h[a.block]? = none := Array.getElem?_eq_none h1
    have : cellH h a = none := by show (mkW h).cell? a = none; simp [World.cell?, mkW, e]
    rw [this] at hc; cases hc

theorem Upd.ext1 {a b : Heap} {p B : Nat} (h : Upd (· = p) a b) (hp : B ≤ p) (hB : B ≤ a.size) : Ext B a b := h.ext hB fun k hk e => by omega

/-! ## Blocks that are known whole -/
/-- Block b is these cells, none of them frozen. -/
def Blk (h : Heap) (b : Nat) (t : TypeId) (cs : List Value) : Prop := ∃ fz, h[b]? = some (.cells cs.toArray t fz) ∧ (fz = (0, 0) ∨ fz = (cs.length, cs.length + 1))
theorem Blk.lt {h : Heap} {b : Nat} {t : TypeId} {cs : List Value} (hb : Blk h b t cs) : b < h.size := by
  obtain ⟨fz, e, _⟩ := hb
  exact (Array.getElem?_eq_some_iff.1 e).1
theorem Blk.cell {h : Heap} {b : Nat} {t : TypeId} {cs : List Value} (hb : Blk h b t cs) (i : Nat) : cellH h ⟨b, i, none⟩ = cs[i]? := by
  obtain ⟨fz, e, _⟩ := hb
  show (mkW h).cell? ⟨b, i, none⟩ = cs[i]?
  have : (mkW h).heap[b]? = some (.cells cs.toArray t fz) := e
  simp [World.cell?, this]
theorem Blk.free {h : Heap} {b : Nat} {t : TypeId} {cs : List Value} (hb : Blk h b t cs) {i : Nat} (hi : i < cs.length) : frozenH h ⟨b, i, none⟩ = false := by
  obtain ⟨fz, e, hf⟩ := hb
  show (mkW h).frozen? ⟨b, i, none⟩ = false
  have : (mkW h).heap[b]? = some (.cells cs.toArray t fz) := e
  rcases hf with rfl | rfl
  · simp [World.frozen?, this]
  · simp only [World.frozen?, this]
    have : decide (cs.length ≤ i) = false := by simp; omega
    simp [this]
theorem Blk.eq {h h' : Heap} {b : Nat} {t : TypeId} {cs : List Value} (hb : Blk h b t cs) (e : h'[b]? = h[b]?) : Blk h' b t cs := by
  obtain ⟨fz, e1, hf⟩ := hb
  exact ⟨fz, e.trans e1, hf⟩
theorem Blk.upd {F : Nat → Prop} {h h' : Heap} {b : Nat} {t : TypeId} {cs : List Value} (hb : Blk h b t cs) (hu : Upd F h h') (hn : ¬ F b) : Blk h' b t cs := hb.eq (hu.keep b hb.lt hn)
theorem Blk.new (h : Heap) (t : TypeId) (cs : List Value) : Blk (h.push (.cells cs.toArray t)) h.size t cs := ⟨(0, 0), by simp, .inl rfl⟩
theorem Blk.set {h : Heap} {b : Nat} {t : TypeId} {cs : List Value} (hb : Blk h b t cs) (i : Nat) (v : Value) : Blk (setH h ⟨b, i, none⟩ v) b t (cs.set i v) := by
  obtain ⟨fz, e, hf⟩ := hb
  refine ⟨fz, ?_, by simpa using hf⟩
  show (((mkW h).setCell ⟨b, i, none⟩ v).heap)[b]? = _
  have : (mkW h).heap[b]? = some (.cells cs.toArray t fz) := e
  simp [World.setCell, Array.getElem?_modify, this]
theorem Blk.far {h : Heap} {b : Nat} {t : TypeId} {cs : List Value} (hb : Blk h b t cs) {a : Addr} (hn : b ≠ a.block) (v : Value) : Blk (setH h a v) b t cs := hb.eq (setH_get h a v hn)
theorem upd_set (h : Heap) (a : Addr) (v : Value) : Upd (· = a.block) h (setH h a v) := ⟨by rw [setH_size]; exact Nat.le_refl _, fun k _ hn => setH_get h a v hn⟩

/-! ## Primitives, as rules -/
theorem nn {a : Addr} {K : Addr → Prop} (h : K a) : Nn (some a) K := ⟨a, rfl, h⟩
theorem ld {k : Kd} {h : Heap} {a : Addr} {K : k.T → Prop} (x : k.T) (hc : cellH h a = some (k.mk x)) (hk : K x) : Ld k h a K := ⟨x, hc, hk⟩
theorem ldB {k : Kd} {h : Heap} {b i : Nat} {t : TypeId} {cs : List Value} {K : k.T → Prop} (hb : Blk h b t cs) (x : k.T) (hc : cs[i]? = some (k.mk x)) (hk : K x) : Ld k h ⟨b, i, none⟩ K := ⟨x, (hb.cell i).trans hc, hk⟩
theorem stB {h : Heap} {b i : Nat} {t : TypeId} {cs : List Value} {v : Value} {K : Heap → Prop} (hb : Blk h b t cs) (hi : i < cs.length) (hk : ∀ h', Blk h' b t (cs.set i v) → Upd (· = b) h h' → h'.size = h.size → K h') :
    St h ⟨b, i, none⟩ v K :=
  ⟨by rw [hb.cell, List.getElem?_eq_getElem hi]; rfl, hb.free hi, hk _ (hb.set i v) (upd_set h ⟨b, i, none⟩ v) (setH_size h _ v)⟩
theorem add0 (g o n : Nat) : (⟨g, o, none⟩ : Addr).add n = ⟨g, o + n, none⟩ := by
  unfold Addr.add; split
  · rename_i e; rw [e]; rfl
  · rfl
theorem ldF {k : Kd} {h : Heap} {b i : Nat} {t : TypeId} {cs : List Value} {K : k.T → Prop} (hb : Blk h b t cs) (x : k.T) (hc : cs[i]? = some (k.mk x)) (hk : K x) : Ld k h ((⟨b, 0, none⟩ : Addr).add i) K := by
  rw [add0, Nat.zero_add]; exact ldB hb x hc hk
theorem stF {h : Heap} {b i : Nat} {t : TypeId} {cs : List Value} {v : Value} {K : Heap → Prop} (hb : Blk h b t cs) (hi : i < cs.length) (hk : ∀ h', Blk h' b t (cs.set i v) → Upd (· = b) h h' → h'.size = h.size → K h') :
    St h ((⟨b, 0, none⟩ : Addr).add i) v K := by
  rw [add0, Nat.zero_add]; exact stB hb hi hk
theorem alloc {h : Heap} {t : TypeId} {cs : List Value} {K : Addr → Heap → Prop} (hk : ∀ h', Blk h' h.size t cs → Ext h.size h h' → h'.size = h.size + 1 → K ⟨h.size, 0, none⟩ h') : Alloc h (.cells cs.toArray t) K :=
  hk _ (Blk.new h t cs) (ext_push h _ (Nat.le_refl _)) (by simp)
theorem let_ {α : Type} {x : α} {K : α → Prop} (h : K x) : Let x K := h
theorem br {p : Prop} {b : Bool} {A B : Prop} (hb : b = true ↔ p) (h1 : p → A) (h2 : ¬ p → B) : cond b A B := by
  cases b with
  | true => exact h1 (hb.1 rfl)
  | false => exact h2 fun x => by have := hb.2 x; cases this
theorem brY {b : Bool} {A B : Prop} (hb : b = true) (h : A) : cond b A B := by subst hb; exact h
theorem brN {b : Bool} {A B : Prop} (hb : b = false) (h : B) : cond b A B := by subst hb; exact h
theorem brT {A B : Prop} (h : A) : cond true A B := h
theorem brF {A B : Prop} (h : B) : cond false A B := h
theorem brB {b : Bool} {A B : Prop} (h1 : b = true → A) (h2 : b = false → B) : cond b A B := by
  cases b with
  | true => exact h1 rfl
  | false => exact h2 rfl
theorem brD {p : Prop} [Decidable p] {A B : Prop} (h1 : p → A) (h2 : ¬ p → B) : cond (decide p) A B := br decide_eq_true_iff h1 h2
theorem nz {b : Int} {K : Prop} (h : b ≠ 0) (hk : K) : Nz b K := ⟨h, hk⟩
theorem nneg {b : Int} {K : Prop} (h : 0 ≤ b) (hk : K) : Nneg b K := ⟨h, hk⟩
theorem cat {s t : ByteArray} {K : ByteArray → Prop} (h : s.size + t.size ≤ 9223372036854775807) (hk : K (s ++ t)) : Cat s t K := ⟨h, hk⟩
theorem w64 {n : Int} (h1 : -9223372036854775808 ≤ n) (h2 : n ≤ 9223372036854775807) : IntKind.i64.wrap n = n := by
  rw [IntKind.wrap_i64]; omega

/-! ### Loops and joins, by how many slots -/
theorem join0 {rest : (Nat → Value) → Heap → Prop} {body : (Heap → Prop) → Prop} (J : Heap → Prop) (h1 : ∀ τ  h, J  h → rest τ  h) (h2 : body J) : Join [] rest body :=
  ⟨J, fun τ () h hJ => h1 τ  h hJ, h2⟩
theorem loop1 {s1 : Sh} {body : (Nat → Value) → s1.T → Heap → (s1.T → Heap → Prop) → Prop} {x1 : s1.T} {h : Heap} (I : s1.T → Heap → Prop) (μ : s1.T → Heap → Nat) (h0 : I x1 h)
    (hr : ∀ τ x1 h, I x1 h → body τ x1 h (fun y1 h' => I y1 h' ∧ μ y1 h' < μ x1 h)) : Loop [s1] body (x1, ()) h :=
  ⟨I, μ, h0, fun τ (x1, ()) h hI => hr τ x1 h hI⟩
theorem join1 {s1 : Sh} {rest : (Nat → Value) → s1.T → Heap → Prop} {body : (s1.T → Heap → Prop) → Prop} (J : s1.T → Heap → Prop) (h1 : ∀ τ x1 h, J x1 h → rest τ x1 h) (h2 : body J) : Join [s1] rest body :=
  ⟨J, fun τ (x1, ()) h hJ => h1 τ x1 h hJ, h2⟩
theorem loop2 {s1 s2 : Sh} {body : (Nat → Value) → s1.T → s2.T → Heap → (s1.T → s2.T → Heap → Prop) → Prop} {x1 : s1.T} {x2 : s2.T} {h : Heap} (I : s1.T → s2.T → Heap → Prop) (μ : s1.T → s2.T → Heap → Nat) (h0 : I x1 x2 h)
    (hr : ∀ τ x1 x2 h, I x1 x2 h → body τ x1 x2 h (fun y1 y2 h' => I y1 y2 h' ∧ μ y1 y2 h' < μ x1 x2 h)) : Loop [s1, s2] body (x1, x2, ()) h :=
  ⟨I, μ, h0, fun τ (x1, x2, ()) h hI => hr τ x1 x2 h hI⟩
theorem join2 {s1 s2 : Sh} {rest : (Nat → Value) → s1.T → s2.T → Heap → Prop} {body : (s1.T → s2.T → Heap → Prop) → Prop} (J : s1.T → s2.T → Heap → Prop) (h1 : ∀ τ x1 x2 h, J x1 x2 h → rest τ x1 x2 h) (h2 : body J) : Join [s1, s2] rest body :=
  ⟨J, fun τ (x1, x2, ()) h hJ => h1 τ x1 x2 h hJ, h2⟩
theorem loop3 {s1 s2 s3 : Sh} {body : (Nat → Value) → s1.T → s2.T → s3.T → Heap → (s1.T → s2.T → s3.T → Heap → Prop) → Prop} {x1 : s1.T} {x2 : s2.T} {x3 : s3.T} {h : Heap} (I : s1.T → s2.T → s3.T → Heap → Prop) (μ : s1.T → s2.T → s3.T → Heap → Nat) (h0 : I x1 x2 x3 h)
    (hr : ∀ τ x1 x2 x3 h, I x1 x2 x3 h → body τ x1 x2 x3 h (fun y1 y2 y3 h' => I y1 y2 y3 h' ∧ μ y1 y2 y3 h' < μ x1 x2 x3 h)) : Loop [s1, s2, s3] body (x1, x2, x3, ()) h :=
  ⟨I, μ, h0, fun τ (x1, x2, x3, ()) h hI => hr τ x1 x2 x3 h hI⟩
theorem join3 {s1 s2 s3 : Sh} {rest : (Nat → Value) → s1.T → s2.T → s3.T → Heap → Prop} {body : (s1.T → s2.T → s3.T → Heap → Prop) → Prop} (J : s1.T → s2.T → s3.T → Heap → Prop) (h1 : ∀ τ x1 x2 x3 h, J x1 x2 x3 h → rest τ x1 x2 x3 h) (h2 : body J) : Join [s1, s2, s3] rest body :=
  ⟨J, fun τ (x1, x2, x3, ()) h hJ => h1 τ x1 x2 x3 h hJ, h2⟩
theorem loop4 {s1 s2 s3 s4 : Sh} {body : (Nat → Value) → s1.T → s2.T → s3.T → s4.T → Heap → (s1.T → s2.T → s3.T → s4.T → Heap → Prop) → Prop} {x1 : s1.T} {x2 : s2.T} {x3 : s3.T} {x4 : s4.T} {h : Heap} (I : s1.T → s2.T → s3.T → s4.T → Heap → Prop) (μ : s1.T → s2.T → s3.T → s4.T → Heap → Nat) (h0 : I x1 x2 x3 x4 h)
    (hr : ∀ τ x1 x2 x3 x4 h, I x1 x2 x3 x4 h → body τ x1 x2 x3 x4 h (fun y1 y2 y3 y4 h' => I y1 y2 y3 y4 h' ∧ μ y1 y2 y3 y4 h' < μ x1 x2 x3 x4 h)) : Loop [s1, s2, s3, s4] body (x1, x2, x3, x4, ()) h :=
  ⟨I, μ, h0, fun τ (x1, x2, x3, x4, ()) h hI => hr τ x1 x2 x3 x4 h hI⟩
theorem join4 {s1 s2 s3 s4 : Sh} {rest : (Nat → Value) → s1.T → s2.T → s3.T → s4.T → Heap → Prop} {body : (s1.T → s2.T → s3.T → s4.T → Heap → Prop) → Prop} (J : s1.T → s2.T → s3.T → s4.T → Heap → Prop) (h1 : ∀ τ x1 x2 x3 x4 h, J x1 x2 x3 x4 h → rest τ x1 x2 x3 x4 h) (h2 : body J) : Join [s1, s2, s3, s4] rest body :=
  ⟨J, fun τ (x1, x2, x3, x4, ()) h hJ => h1 τ x1 x2 x3 x4 h hJ, h2⟩
theorem loop5 {s1 s2 s3 s4 s5 : Sh} {body : (Nat → Value) → s1.T → s2.T → s3.T → s4.T → s5.T → Heap → (s1.T → s2.T → s3.T → s4.T → s5.T → Heap → Prop) → Prop} {x1 : s1.T} {x2 : s2.T} {x3 : s3.T} {x4 : s4.T} {x5 : s5.T} {h : Heap} (I : s1.T → s2.T → s3.T → s4.T → s5.T → Heap → Prop) (μ : s1.T → s2.T → s3.T → s4.T → s5.T → Heap → Nat) (h0 : I x1 x2 x3 x4 x5 h)
    (hr : ∀ τ x1 x2 x3 x4 x5 h, I x1 x2 x3 x4 x5 h → body τ x1 x2 x3 x4 x5 h (fun y1 y2 y3 y4 y5 h' => I y1 y2 y3 y4 y5 h' ∧ μ y1 y2 y3 y4 y5 h' < μ x1 x2 x3 x4 x5 h)) : Loop [s1, s2, s3, s4, s5] body (x1, x2, x3, x4, x5, ()) h :=
  ⟨I, μ, h0, fun τ (x1, x2, x3, x4, x5, ()) h hI => hr τ x1 x2 x3 x4 x5 h hI⟩
theorem join5 {s1 s2 s3 s4 s5 : Sh} {rest : (Nat → Value) → s1.T → s2.T → s3.T → s4.T → s5.T → Heap → Prop} {body : (s1.T → s2.T → s3.T → s4.T → s5.T → Heap → Prop) → Prop} (J : s1.T → s2.T → s3.T → s4.T → s5.T → Heap → Prop) (h1 : ∀ τ x1 x2 x3 x4 x5 h, J x1 x2 x3 x4 x5 h → rest τ x1 x2 x3 x4 x5 h) (h2 : body J) : Join [s1, s2, s3, s4, s5] rest body :=
  ⟨J, fun τ (x1, x2, x3, x4, x5, ()) h hJ => h1 τ x1 x2 x3 x4 x5 h hJ, h2⟩
theorem loop6 {s1 s2 s3 s4 s5 s6 : Sh} {body : (Nat → Value) → s1.T → s2.T → s3.T → s4.T → s5.T → s6.T → Heap → (s1.T → s2.T → s3.T → s4.T → s5.T → s6.T → Heap → Prop) → Prop} {x1 : s1.T} {x2 : s2.T} {x3 : s3.T} {x4 : s4.T} {x5 : s5.T} {x6 : s6.T} {h : Heap} (I : s1.T → s2.T → s3.T → s4.T → s5.T → s6.T → Heap → Prop) (μ : s1.T → s2.T → s3.T → s4.T → s5.T → s6.T → Heap → Nat) (h0 : I x1 x2 x3 x4 x5 x6 h)
    (hr : ∀ τ x1 x2 x3 x4 x5 x6 h, I x1 x2 x3 x4 x5 x6 h → body τ x1 x2 x3 x4 x5 x6 h (fun y1 y2 y3 y4 y5 y6 h' => I y1 y2 y3 y4 y5 y6 h' ∧ μ y1 y2 y3 y4 y5 y6 h' < μ x1 x2 x3 x4 x5 x6 h)) : Loop [s1, s2, s3, s4, s5, s6] body (x1, x2, x3, x4, x5, x6, ()) h :=
  ⟨I, μ, h0, fun τ (x1, x2, x3, x4, x5, x6, ()) h hI => hr τ x1 x2 x3 x4 x5 x6 h hI⟩
theorem join6 {s1 s2 s3 s4 s5 s6 : Sh} {rest : (Nat → Value) → s1.T → s2.T → s3.T → s4.T → s5.T → s6.T → Heap → Prop} {body : (s1.T → s2.T → s3.T → s4.T → s5.T → s6.T → Heap → Prop) → Prop} (J : s1.T → s2.T → s3.T → s4.T → s5.T → s6.T → Heap → Prop) (h1 : ∀ τ x1 x2 x3 x4 x5 x6 h, J x1 x2 x3 x4 x5 x6 h → rest τ x1 x2 x3 x4 x5 x6 h) (h2 : body J) : Join [s1, s2, s3, s4, s5, s6] rest body :=
  ⟨J, fun τ (x1, x2, x3, x4, x5, x6, ()) h hJ => h1 τ x1 x2 x3 x4 x5 x6 h hJ, h2⟩
theorem loop7 {s1 s2 s3 s4 s5 s6 s7 : Sh} {body : (Nat → Value) → s1.T → s2.T → s3.T → s4.T → s5.T → s6.T → s7.T → Heap → (s1.T → s2.T → s3.T → s4.T → s5.T → s6.T → s7.T → Heap → Prop) → Prop} {x1 : s1.T} {x2 : s2.T} {x3 : s3.T} {x4 : s4.T} {x5 : s5.T} {x6 : s6.T} {x7 : s7.T} {h : Heap} (I : s1.T → s2.T → s3.T → s4.T → s5.T → s6.T → s7.T → Heap → Prop) (μ : s1.T → s2.T → s3.T → s4.T → s5.T → s6.T → s7.T → Heap → Nat) (h0 : I x1 x2 x3 x4 x5 x6 x7 h)
    (hr : ∀ τ x1 x2 x3 x4 x5 x6 x7 h, I x1 x2 x3 x4 x5 x6 x7 h → body τ x1 x2 x3 x4 x5 x6 x7 h (fun y1 y2 y3 y4 y5 y6 y7 h' => I y1 y2 y3 y4 y5 y6 y7 h' ∧ μ y1 y2 y3 y4 y5 y6 y7 h' < μ x1 x2 x3 x4 x5 x6 x7 h)) : Loop [s1, s2, s3, s4, s5, s6, s7] body (x1, x2, x3, x4, x5, x6, x7, ()) h :=
  ⟨I, μ, h0, fun τ (x1, x2, x3, x4, x5, x6, x7, ()) h hI => hr τ x1 x2 x3 x4 x5 x6 x7 h hI⟩
theorem join7 {s1 s2 s3 s4 s5 s6 s7 : Sh} {rest : (Nat → Value) → s1.T → s2.T → s3.T → s4.T → s5.T → s6.T → s7.T → Heap → Prop} {body : (s1.T → s2.T → s3.T → s4.T → s5.T → s6.T → s7.T → Heap → Prop) → Prop} (J : s1.T → s2.T → s3.T → s4.T → s5.T → s6.T → s7.T → Heap → Prop) (h1 : ∀ τ x1 x2 x3 x4 x5 x6 x7 h, J x1 x2 x3 x4 x5 x6 x7 h → rest τ x1 x2 x3 x4 x5 x6 x7 h) (h2 : body J) : Join [s1, s2, s3, s4, s5, s6, s7] rest body :=
  ⟨J, fun τ (x1, x2, x3, x4, x5, x6, x7, ()) h hJ => h1 τ x1 x2 x3 x4 x5 x6 x7 h hJ, h2⟩
theorem loop8 {s1 s2 s3 s4 s5 s6 s7 s8 : Sh} {body : (Nat → Value) → s1.T → s2.T → s3.T → s4.T → s5.T → s6.T → s7.T → s8.T → Heap → (s1.T → s2.T → s3.T → s4.T → s5.T → s6.T → s7.T → s8.T → Heap → Prop) → Prop} {x1 : s1.T} {x2 : s2.T} {x3 : s3.T} {x4 : s4.T} {x5 : s5.T} {x6 : s6.T} {x7 : s7.T} {x8 : s8.T} {h : Heap} (I : s1.T → s2.T → s3.T → s4.T → s5.T → s6.T → s7.T → s8.T → Heap → Prop) (μ : s1.T → s2.T → s3.T → s4.T → s5.T → s6.T → s7.T → s8.T → Heap → Nat) (h0 : I x1 x2 x3 x4 x5 x6 x7 x8 h)
    (hr : ∀ τ x1 x2 x3 x4 x5 x6 x7 x8 h, I x1 x2 x3 x4 x5 x6 x7 x8 h → body τ x1 x2 x3 x4 x5 x6 x7 x8 h (fun y1 y2 y3 y4 y5 y6 y7 y8 h' => I y1 y2 y3 y4 y5 y6 y7 y8 h' ∧ μ y1 y2 y3 y4 y5 y6 y7 y8 h' < μ x1 x2 x3 x4 x5 x6 x7 x8 h)) : Loop [s1, s2, s3, s4, s5, s6, s7, s8] body (x1, x2, x3, x4, x5, x6, x7, x8, ()) h :=
  ⟨I, μ, h0, fun τ (x1, x2, x3, x4, x5, x6, x7, x8, ()) h hI => hr τ x1 x2 x3 x4 x5 x6 x7 x8 h hI⟩
theorem join8 {s1 s2 s3 s4 s5 s6 s7 s8 : Sh} {rest : (Nat → Value) → s1.T → s2.T → s3.T → s4.T → s5.T → s6.T → s7.T → s8.T → Heap → Prop} {body : (s1.T → s2.T → s3.T → s4.T → s5.T → s6.T → s7.T → s8.T → Heap → Prop) → Prop} (J : s1.T → s2.T → s3.T → s4.T → s5.T → s6.T → s7.T → s8.T → Heap → Prop) (h1 : ∀ τ x1 x2 x3 x4 x5 x6 x7 x8 h, J x1 x2 x3 x4 x5 x6 x7 x8 h → rest τ x1 x2 x3 x4 x5 x6 x7 x8 h) (h2 : body J) : Join [s1, s2, s3, s4, s5, s6, s7, s8] rest body :=
  ⟨J, fun τ (x1, x2, x3, x4, x5, x6, x7, x8, ()) h hJ => h1 τ x1 x2 x3 x4 x5 x6 x7 x8 h hJ, h2⟩
theorem loop9 {s1 s2 s3 s4 s5 s6 s7 s8 s9 : Sh} {body : (Nat → Value) → s1.T → s2.T → s3.T → s4.T → s5.T → s6.T → s7.T → s8.T → s9.T → Heap → (s1.T → s2.T → s3.T → s4.T → s5.T → s6.T → s7.T → s8.T → s9.T → Heap → Prop) → Prop} {x1 : s1.T} {x2 : s2.T} {x3 : s3.T} {x4 : s4.T} {x5 : s5.T} {x6 : s6.T} {x7 : s7.T} {x8 : s8.T} {x9 : s9.T} {h : Heap} (I : s1.T → s2.T → s3.T → s4.T → s5.T → s6.T → s7.T → s8.T → s9.T → Heap → Prop) (μ : s1.T → s2.T → s3.T → s4.T → s5.T → s6.T → s7.T → s8.T → s9.T → Heap → Nat) (h0 : I x1 x2 x3 x4 x5 x6 x7 x8 x9 h)
    (hr : ∀ τ x1 x2 x3 x4 x5 x6 x7 x8 x9 h, I x1 x2 x3 x4 x5 x6 x7 x8 x9 h → body τ x1 x2 x3 x4 x5 x6 x7 x8 x9 h (fun y1 y2 y3 y4 y5 y6 y7 y8 y9 h' => I y1 y2 y3 y4 y5 y6 y7 y8 y9 h' ∧ μ y1 y2 y3 y4 y5 y6 y7 y8 y9 h' < μ x1 x2 x3 x4 x5 x6 x7 x8 x9 h)) : Loop [s1, s2, s3, s4, s5, s6, s7, s8, s9] body (x1, x2, x3, x4, x5, x6, x7, x8, x9, ()) h :=
  ⟨I, μ, h0, fun τ (x1, x2, x3, x4, x5, x6, x7, x8, x9, ()) h hI => hr τ x1 x2 x3 x4 x5 x6 x7 x8 x9 h hI⟩
theorem join9 {s1 s2 s3 s4 s5 s6 s7 s8 s9 : Sh} {rest : (Nat → Value) → s1.T → s2.T → s3.T → s4.T → s5.T → s6.T → s7.T → s8.T → s9.T → Heap → Prop} {body : (s1.T → s2.T → s3.T → s4.T → s5.T → s6.T → s7.T → s8.T → s9.T → Heap → Prop) → Prop} (J : s1.T → s2.T → s3.T → s4.T → s5.T → s6.T → s7.T → s8.T → s9.T → Heap → Prop) (h1 : ∀ τ x1 x2 x3 x4 x5 x6 x7 x8 x9 h, J x1 x2 x3 x4 x5 x6 x7 x8 x9 h → rest τ x1 x2 x3 x4 x5 x6 x7 x8 x9 h) (h2 : body J) : Join [s1, s2, s3, s4, s5, s6, s7, s8, s9] rest body :=
  ⟨J, fun τ (x1, x2, x3, x4, x5, x6, x7, x8, x9, ()) h hJ => h1 τ x1 x2 x3 x4 x5 x6 x7 x8 x9 h hJ, h2⟩
theorem loop10 {s1 s2 s3 s4 s5 s6 s7 s8 s9 s10 : Sh} {body : (Nat → Value) → s1.T → s2.T → s3.T → s4.T → s5.T → s6.T → s7.T → s8.T → s9.T → s10.T → Heap → (s1.T → s2.T → s3.T → s4.T → s5.T → s6.T → s7.T → s8.T → s9.T → s10.T → Heap → Prop) → Prop} {x1 : s1.T} {x2 : s2.T} {x3 : s3.T} {x4 : s4.T} {x5 : s5.T} {x6 : s6.T} {x7 : s7.T} {x8 : s8.T} {x9 : s9.T} {x10 : s10.T} {h : Heap} (I : s1.T → s2.T → s3.T → s4.T → s5.T → s6.T → s7.T → s8.T → s9.T → s10.T → Heap → Prop) (μ : s1.T → s2.T → s3.T → s4.T → s5.T → s6.T → s7.T → s8.T → s9.T → s10.T → Heap → Nat) (h0 : I x1 x2 x3 x4 x5 x6 x7 x8 x9 x10 h)
    (hr : ∀ τ x1 x2 x3 x4 x5 x6 x7 x8 x9 x10 h, I x1 x2 x3 x4 x5 x6 x7 x8 x9 x10 h → body τ x1 x2 x3 x4 x5 x6 x7 x8 x9 x10 h (fun y1 y2 y3 y4 y5 y6 y7 y8 y9 y10 h' => I y1 y2 y3 y4 y5 y6 y7 y8 y9 y10 h' ∧ μ y1 y2 y3 y4 y5 y6 y7 y8 y9 y10 h' < μ x1 x2 x3 x4 x5 x6 x7 x8 x9 x10 h)) : Loop [s1, s2, s3, s4, s5, s6, s7, s8, s9, s10] body (x1, x2, x3, x4, x5, x6, x7, x8, x9, x10, ()) h :=
  ⟨I, μ, h0, fun τ (x1, x2, x3, x4, x5, x6, x7, x8, x9, x10, ()) h hI => hr τ x1 x2 x3 x4 x5 x6 x7 x8 x9 x10 h hI⟩
theorem join10 {s1 s2 s3 s4 s5 s6 s7 s8 s9 s10 : Sh} {rest : (Nat → Value) → s1.T → s2.T → s3.T → s4.T → s5.T → s6.T → s7.T → s8.T → s9.T → s10.T → Heap → Prop} {body : (s1.T → s2.T → s3.T → s4.T → s5.T → s6.T → s7.T → s8.T → s9.T → s10.T → Heap → Prop) → Prop} (J : s1.T → s2.T → s3.T → s4.T → s5.T → s6.T → s7.T → s8.T → s9.T → s10.T → Heap → Prop) (h1 : ∀ τ x1 x2 x3 x4 x5 x6 x7 x8 x9 x10 h, J x1 x2 x3 x4 x5 x6 x7 x8 x9 x10 h → rest τ x1 x2 x3 x4 x5 x6 x7 x8 x9 x10 h) (h2 : body J) : Join [s1, s2, s3, s4, s5, s6, s7, s8, s9, s10] rest body :=
  ⟨J, fun τ (x1, x2, x3, x4, x5, x6, x7, x8, x9, x10, ()) h hJ => h1 τ x1 x2 x3 x4 x5 x6 x7 x8 x9 x10 h hJ, h2⟩
theorem loop11 {s1 s2 s3 s4 s5 s6 s7 s8 s9 s10 s11 : Sh} {body : (Nat → Value) → s1.T → s2.T → s3.T → s4.T → s5.T → s6.T → s7.T → s8.T → s9.T → s10.T → s11.T → Heap → (s1.T → s2.T → s3.T → s4.T → s5.T → s6.T → s7.T → s8.T → s9.T → s10.T → s11.T → Heap → Prop) → Prop} {x1 : s1.T} {x2 : s2.T} {x3 : s3.T} {x4 : s4.T} {x5 : s5.T} {x6 : s6.T} {x7 : s7.T} {x8 : s8.T} {x9 : s9.T} {x10 : s10.T} {x11 : s11.T} {h : Heap} (I : s1.T → s2.T → s3.T → s4.T → s5.T → s6.T → s7.T → s8.T → s9.T → s10.T → s11.T → Heap → Prop) (μ : s1.T → s2.T → s3.T → s4.T → s5.T → s6.T → s7.T → s8.T → s9.T → s10.T → s11.T → Heap → Nat) (h0 : I x1 x2 x3 x4 x5 x6 x7 x8 x9 x10 x11 h)
    (hr : ∀ τ x1 x2 x3 x4 x5 x6 x7 x8 x9 x10 x11 h, I x1 x2 x3 x4 x5 x6 x7 x8 x9 x10 x11 h → body τ x1 x2 x3 x4 x5 x6 x7 x8 x9 x10 x11 h (fun y1 y2 y3 y4 y5 y6 y7 y8 y9 y10 y11 h' => I y1 y2 y3 y4 y5 y6 y7 y8 y9 y10 y11 h' ∧ μ y1 y2 y3 y4 y5 y6 y7 y8 y9 y10 y11 h' < μ x1 x2 x3 x4 x5 x6 x7 x8 x9 x10 x11 h)) : Loop [s1, s2, s3, s4, s5, s6, s7, s8, s9, s10, s11] body (x1, x2, x3, x4, x5, x6, x7, x8, x9, x10, x11, ()) h :=
  ⟨I, μ, h0, fun τ (x1, x2, x3, x4, x5, x6, x7, x8, x9, x10, x11, ()) h hI => hr τ x1 x2 x3 x4 x5 x6 x7 x8 x9 x10 x11 h hI⟩
theorem join11 {s1 s2 s3 s4 s5 s6 s7 s8 s9 s10 s11 : Sh} {rest : (Nat → Value) → s1.T → s2.T → s3.T → s4.T → s5.T → s6.T → s7.T → s8.T → s9.T → s10.T → s11.T → Heap → Prop} {body : (s1.T → s2.T → s3.T → s4.T → s5.T → s6.T → s7.T → s8.T → s9.T → s10.T → s11.T → Heap → Prop) → Prop} (J : s1.T → s2.T → s3.T → s4.T → s5.T → s6.T → s7.T → s8.T → s9.T → s10.T → s11.T → Heap → Prop) (h1 : ∀ τ x1 x2 x3 x4 x5 x6 x7 x8 x9 x10 x11 h, J x1 x2 x3 x4 x5 x6 x7 x8 x9 x10 x11 h → rest τ x1 x2 x3 x4 x5 x6 x7 x8 x9 x10 x11 h) (h2 : body J) : Join [s1, s2, s3, s4, s5, s6, s7, s8, s9, s10, s11] rest body :=
  ⟨J, fun τ (x1, x2, x3, x4, x5, x6, x7, x8, x9, x10, x11, ()) h hJ => h1 τ x1 x2 x3 x4 x5 x6 x7 x8 x9 x10 x11 h hJ, h2⟩
theorem loop12 {s1 s2 s3 s4 s5 s6 s7 s8 s9 s10 s11 s12 : Sh} {body : (Nat → Value) → s1.T → s2.T → s3.T → s4.T → s5.T → s6.T → s7.T → s8.T → s9.T → s10.T → s11.T → s12.T → Heap → (s1.T → s2.T → s3.T → s4.T → s5.T → s6.T → s7.T → s8.T → s9.T → s10.T → s11.T → s12.T → Heap → Prop) → Prop} {x1 : s1.T} {x2 : s2.T} {x3 : s3.T} {x4 : s4.T} {x5 : s5.T} {x6 : s6.T} {x7 : s7.T} {x8 : s8.T} {x9 : s9.T} {x10 : s10.T} {x11 : s11.T} {x12 : s12.T} {h : Heap} (I : s1.T → s2.T → s3.T → s4.T → s5.T → s6.T → s7.T → s8.T → s9.T → s10.T → s11.T → s12.T → Heap → Prop) (μ : s1.T → s2.T → s3.T → s4.T → s5.T → s6.T → s7.T → s8.T → s9.T → s10.T → s11.T → s12.T → Heap → Nat) (h0 : I x1 x2 x3 x4 x5 x6 x7 x8 x9 x10 x11 x12 h)
    (hr : ∀ τ x1 x2 x3 x4 x5 x6 x7 x8 x9 x10 x11 x12 h, I x1 x2 x3 x4 x5 x6 x7 x8 x9 x10 x11 x12 h → body τ x1 x2 x3 x4 x5 x6 x7 x8 x9 x10 x11 x12 h (fun y1 y2 y3 y4 y5 y6 y7 y8 y9 y10 y11 y12 h' => I y1 y2 y3 y4 y5 y6 y7 y8 y9 y10 y11 y12 h' ∧ μ y1 y2 y3 y4 y5 y6 y7 y8 y9 y10 y11 y12 h' < μ x1 x2 x3 x4 x5 x6 x7 x8 x9 x10 x11 x12 h)) : Loop [s1, s2, s3, s4, s5, s6, s7, s8, s9, s10, s11, s12] body (x1, x2, x3, x4, x5, x6, x7, x8, x9, x10, x11, x12, ()) h :=
  ⟨I, μ, h0, fun τ (x1, x2, x3, x4, x5, x6, x7, x8, x9, x10, x11, x12, ()) h hI => hr τ x1 x2 x3 x4 x5 x6 x7 x8 x9 x10 x11 x12 h hI⟩
theorem join12 {s1 s2 s3 s4 s5 s6 s7 s8 s9 s10 s11 s12 : Sh} {rest : (Nat → Value) → s1.T → s2.T → s3.T → s4.T → s5.T → s6.T → s7.T → s8.T → s9.T → s10.T → s11.T → s12.T → Heap → Prop} {body : (s1.T → s2.T → s3.T → s4.T → s5.T → s6.T → s7.T → s8.T → s9.T → s10.T → s11.T → s12.T → Heap → Prop) → Prop} (J : s1.T → s2.T → s3.T → s4.T → s5.T → s6.T → s7.T → s8.T → s9.T → s10.T → s11.T → s12.T → Heap → Prop) (h1 : ∀ τ x1 x2 x3 x4 x5 x6 x7 x8 x9 x10 x11 x12 h, J x1 x2 x3 x4 x5 x6 x7 x8 x9 x10 x11 x12 h → rest τ x1 x2 x3 x4 x5 x6 x7 x8 x9 x10 x11 x12 h) (h2 : body J) : Join [s1, s2, s3, s4, s5, s6, s7, s8, s9, s10, s11, s12] rest body :=
  ⟨J, fun τ (x1, x2, x3, x4, x5, x6, x7, x8, x9, x10, x11, x12, ()) h hJ => h1 τ x1 x2 x3 x4 x5 x6 x7 x8 x9 x10 x11 x12 h hJ, h2⟩

/-! ## Slices -/
def Sl.blk (s : Sl) : Option Nat := s.a.map (·.block)
/-- A slice that reads as these cells. -/
def RdS (h : Heap) (sz : Nat) (s : Sl) (xs : List Value) : Prop :=
  xs.length = s.n * sz ∧ (0 < xs.length → ∃ g o, s.a = some ⟨g, o, none⟩ ∧ ∀ j, j < xs.length → cellH h ⟨g, o + j, none⟩ = xs[j]?)
/-- A slice that may be written, up to its capacity. -/
def Own (h : Heap) (sz : Nat) (s : Sl) (xs : List Value) : Prop :=
  xs.length = s.n * sz ∧ s.n ≤ s.c ∧ s.c ≤ 9223372036854775807 ∧
    ((s.a = none ∧ s.c = 0) ∨ ∃ g o, s.a = some ⟨g, o, none⟩ ∧ g < h.size ∧ (∀ j, j < xs.length → cellH h ⟨g, o + j, none⟩ = xs[j]?) ∧
      ∀ j, j < s.c * sz → (cellH h ⟨g, o + j, none⟩).isSome = true ∧ frozenH h ⟨g, o + j, none⟩ = false)
theorem Own.rd {h : Heap} {sz : Nat} {s : Sl} {xs : List Value} (ho : Own h sz s xs) : RdS h sz s xs := by
  obtain ⟨h1, h2, _, h3⟩ := ho
  refine ⟨h1, fun hp => ?_⟩
  rcases h3 with ⟨_, hc⟩ | ⟨g, o, ha, _, hx, _⟩
  · rw [h1, show s.n = 0 by omega] at hp; simp at hp
  · exact ⟨g, o, ha, hx⟩
theorem RdS.nil (h : Heap) (sz : Nat) (a : Option Addr) (c : Nat) : RdS h sz ⟨a, 0, c⟩ [] := ⟨by simp, fun h => by simp at h⟩
theorem Own.nil (h : Heap) (sz : Nat) : Own h sz ⟨none, 0, 0⟩ [] := ⟨by simp, Nat.le_refl _, Nat.zero_le _, .inl ⟨rfl, rfl⟩⟩
theorem RdS.keep {h h' : Heap} {sz : Nat} {s : Sl} {xs : List Value} (hr : RdS h sz s xs) (hk : ∀ g, s.blk = some g → g < h.size → h'[g]? = h[g]?) : RdS h' sz s xs := by
  refine ⟨hr.1, fun hp => ?_⟩
  obtain ⟨g, o, ha, hx⟩ := hr.2 hp
  have hg : g < h.size := lt_of_cell (a := ⟨g, o + 0, none⟩) ((hx 0 hp).trans (List.getElem?_eq_getElem hp))
  exact ⟨g, o, ha, fun j hj => (cellH_eq (hk g (by simp [Sl.blk, ha]) hg)).trans (hx j hj)⟩
theorem Own.keep {h h' : Heap} {sz : Nat} {s : Sl} {xs : List Value} (hr : Own h sz s xs) (hsz : h.size ≤ h'.size) (hk : ∀ g, s.blk = some g → g < h.size → h'[g]? = h[g]?) : Own h' sz s xs := by
  obtain ⟨h1, h2, h3, h4⟩ := hr
  refine ⟨h1, h2, h3, h4.imp id ?_⟩
  rintro ⟨g, o, ha, hg, hx, hc⟩
  have e := hk g (by simp [Sl.blk, ha]) hg
  exact ⟨g, o, ha, by omega, fun j hj => (cellH_eq e).trans (hx j hj), fun j hj => ⟨by rw [cellH_eq e]; exact (hc j hj).1, by rw [frozenH_eq e]; exact (hc j hj).2⟩⟩
/-- Its block lies below B (if it has one). -/
def Sl.below (s : Sl) (B : Nat) : Prop := ∀ g, s.blk = some g → g < B
def Sl.from_ (s : Sl) (B : Nat) : Prop := ∀ g, s.blk = some g → B ≤ g
theorem RdS.ext {B : Nat} {h h' : Heap} {sz : Nat} {s : Sl} {xs : List Value} (hr : RdS h sz s xs) (he : Ext B h h') (hb : s.below B) : RdS h' sz s xs := hr.keep fun g hg _ => he.2 g (hb g hg)
theorem RdS.ext' {h h' : Heap} {sz : Nat} {s : Sl} {xs : List Value} (hr : RdS h sz s xs) (he : Ext h.size h h') : RdS h' sz s xs := hr.keep fun g _ hl => he.2 g hl
theorem Own.ext' {h h' : Heap} {sz : Nat} {s : Sl} {xs : List Value} (hr : Own h sz s xs) (he : Ext h.size h h') : Own h' sz s xs := hr.keep he.1 fun g _ hl => he.2 g hl
theorem RdS.upd {F : Nat → Prop} {h h' : Heap} {sz : Nat} {s : Sl} {xs : List Value} (hr : RdS h sz s xs) (he : Upd F h h') (hb : ∀ g, s.blk = some g → ¬ F g) : RdS h' sz s xs := hr.keep fun g hg hl => he.keep g hl (hb g hg)
theorem Own.upd {F : Nat → Prop} {h h' : Heap} {sz : Nat} {s : Sl} {xs : List Value} (hr : Own h sz s xs) (he : Upd F h h') (hb : ∀ g, s.blk = some g → ¬ F g) : Own h' sz s xs := hr.keep he.size fun g hg hl => he.keep g hl (hb g hg)
theorem Own.of_blk {h : Heap} {b : Nat} {t : TypeId} {cs : List Value} (hb : Blk h b t cs) {sz n c : Nat} (hc : cs.length = c * sz) (hn : n ≤ c) (hm : c ≤ 9223372036854775807) : Own h sz ⟨some ⟨b, 0, none⟩, n, c⟩ (cs.take (n * sz)) := by
  have hnc : n * sz ≤ c * sz := Nat.mul_le_mul_right _ hn
  refine ⟨by rw [List.length_take, hc]; exact Nat.min_eq_left hnc, hn, hm, .inr ⟨b, 0, rfl, hb.lt, fun j hj => ?_, fun j hj => ?_⟩⟩
  · rw [Nat.zero_add, hb.cell, List.getElem?_take]
    rw [List.length_take] at hj
    rw [if_pos (by omega)]
  · have hj' : j < c * sz := hj
    rw [Nat.zero_add]
    exact ⟨by rw [hb.cell, List.getElem?_eq_getElem (by omega)]; rfl, hb.free (by omega)⟩
theorem Own.full {h : Heap} {b : Nat} {t : TypeId} {cs : List Value} (hb : Blk h b t cs) {sz n : Nat} (hc : cs.length = n * sz) (hm : n ≤ 9223372036854775807) : Own h sz ⟨some ⟨b, 0, none⟩, n, n⟩ cs := by
  have := Own.of_blk hb hc (Nat.le_refl n) hm
  rwa [← hc, List.take_length] at this

/-- An element of a slice that is read. -/
theorem ix {h : Heap} {sz : Nat} {s : Sl} {xs : List Value} {i : Int} {K : Addr → Prop} (hr : RdS h sz s xs) (h0 : 0 ≤ i) (h1 : i < s.n) (hsz : 0 < sz)
    (hk : ∀ g o, s.blk = some g → (∀ j, j < sz → cellH h ⟨g, o + j, none⟩ = xs[i.toNat * sz + j]?) → K ⟨g, o, none⟩) : Ix s i sz K := by
  have hi : i.toNat < s.n := by omega
  have hle : i.toNat * sz + sz ≤ s.n * sz := by rw [← Nat.succ_mul]; exact Nat.mul_le_mul_right _ hi
  obtain ⟨g, o, ha, hx⟩ := hr.2 (by rw [hr.1]; omega)
  refine ⟨_, ha, h0, h1, ?_⟩
  rw [show ((⟨g, o, none⟩ : Addr).add (i.toNat * sz)) = ⟨g, o + i.toNat * sz, none⟩ by
    unfold Addr.add; split
    · rename_i e; rw [e]; rfl
    · rfl]
  refine hk g _ (by simp [Sl.blk, ha]) fun j hj => ?_
  rw [Nat.add_assoc]
  exact hx _ (by rw [hr.1]; omega)

/-! ### append -/
/-- What is known of a type of slices. -/
structure ElemT (P : Program) (t e : TypeId) (sz by_ : Nat) : Prop where
  und : P.underlying t = some (.slice e)
  info : ∃ i z, P.info? e = some i ∧ i.zero = some z ∧ i.size = sz ∧ i.bytes = by_ ∧ z.cells.size = sz
  pos : 0 < sz
def elemB (P : Program) (t e sz by_ : Nat) : Bool :=
  (match P.underlying t with
    | some (.slice e') => Nat.beq e' e
    | _ => false) &&
  (match P.info? e with
    | some i => (match i.zero with
      | some z => Nat.beq i.size sz && Nat.beq i.bytes by_ && Nat.beq z.cells.size sz
      | none => false)
    | none => false) && Nat.ble 1 sz
theorem ElemT.of {P : Program} {t e sz by_ : Nat} (h : elemB P t e sz by_ = true) : ElemT P t e sz by_ := by
  unfold elemB at h
  simp only [Bool.and_eq_true] at h
  obtain ⟨⟨h1, h2⟩, h3⟩ := h
  refine ⟨?_, ?_, Nat.le_of_ble_eq_true h3⟩
  · split at h1
    · rename_i e' he
      rw [he, Nat.eq_of_beq_eq_true h1]
    · cases h1
  · split at h2
    · rename_i i hi
      split at h2
      · rename_i z hz
        simp only [Bool.and_eq_true] at h2
        exact ⟨i, z, hi, hz, Nat.eq_of_beq_eq_true h2.1.1, Nat.eq_of_beq_eq_true h2.1.2, Nat.eq_of_beq_eq_true h2.2⟩
      · cases h2
    · cases h2
theorem env_setCells (w : World) (b : Nat) : ∀ (vs : List Value) (o : Nat), Env w (w.setCells b o vs)
  | vs, o => ⟨World.os_setCells w b o vs, by
      induction vs generalizing o w with
      | nil => rfl
      | cons v vs ih => exact (ih (w.setCell ⟨b, o, none⟩ v) (o + 1)).trans rfl, World.output_setCells w b o vs⟩
theorem size_setCells (b : Nat) : ∀ (vs : List Value) (o : Nat) (w : World), (w.setCells b o vs).heap.size = w.heap.size
  | [], _, _ => rfl
  | v :: vs, o, w => (size_setCells b vs (o + 1) (w.setCell ⟨b, o, none⟩ v)).trans (by simp [World.setCell])
theorem get_setCells (b : Nat) : ∀ (vs : List Value) (o : Nat) (w : World) {k : Nat}, k ≠ b → (w.setCells b o vs).heap[k]? = w.heap[k]?
  | [], _, _, _, _ => rfl
  | v :: vs, o, w, k, hk => (get_setCells b vs (o + 1) (w.setCell ⟨b, o, none⟩ v) hk).trans (by
      simp only [World.setCell, Array.getElem?_modify]; rw [if_neg (fun e => hk e.symm)])
/-- What the appended part yields. -/
def SrcH (P : Program) (sz : Nat) (tx : TypeId) (x : Value) (n : Nat) (ys : List Value) (h : Heap) : Prop := ∀ w : World, w.heap = h → Src P sz tx x n ys w
theorem SrcH.slice {P : Program} {sz : Nat} {tx e : TypeId} {h : Heap} {x : Sl} {ys : List Value} (hk : P.underlying tx = some (.slice e)) (hr : RdS h sz x ys) (h1 : ∀ u ∈ ys, u.oneCell' = true) (hsz : 0 < sz) :
    SrcH P sz tx (.slice x.a x.n x.c) x.n ys h := by
  intro w hw
  by_cases hp : 0 < ys.length
  · obtain ⟨g, o, ha, hx⟩ := hr.2 hp
    rw [ha]
    refine Src.ofSlice w hk _ _ _ _ hr.1 (fun j u hu => ?_) h1
    have hj : j < ys.length := (List.getElem?_eq_some_iff.1 hu).1
    rw [Addr.add_lit, cell_eq, hw, hx j hj, hu]
  · have hn : ys = [] := List.eq_nil_of_length_eq_zero (by omega)
    subst hn
    have hxn : x.n = 0 := by
      have := hr.1
      simp only [List.length_nil] at this
      rcases Nat.mul_eq_zero.1 this.symm with h0 | h0
      · exact h0
      · omega
    rw [hxn]
    cases ha : x.a with
    | none => exact Src.ofNil w hk _
    | some a => exact Src.ofSlice w hk _ _ _ _ (by simp) (fun j u hu => by simp at hu) (fun _ h => by cases h)
theorem SrcH.str {P : Program} {tx : TypeId} {h : Heap} (hk : P.underlying tx = some .string) (s : ByteArray) : SrcH P 1 tx (.string s) s.size (byteCells s) h := fun w _ => Src.ofString w hk s
theorem nextcap_le (n c : Nat) (h : c < n) : Builtin.nextslicecap n c ≤ 2 * n := by
  unfold Builtin.nextslicecap
  split
  · omega
  · split
    · omega
    · have key : ∀ r k, k ≤ 2 * n → Builtin.growBy n r k ≤ 2 * n ∨ k < n := by
        intro r k hk
        by_cases hkn : k < n
        · exact .inr hkn
        · left
          cases r with
          | zero => exact hk
          | succ r => unfold Builtin.growBy; rw [if_pos (by omega)]; exact hk
      -- each step at most doubles what is below n
      have step : ∀ r k, 256 ≤ k → k ≤ 2 * n → Builtin.growBy n r k ≤ 2 * n := by
        intro r
        induction r with
        | zero => intro k _ hk; exact hk
        | succ r ih =>
          intro k h256 hk
          unfold Builtin.growBy
          split
          · exact hk
          · exact ih _ (by omega) (by omega)
      exact step 4 c (by omega) (by omega)

theorem opT_app_full {P : Program} {t tx ty e : TypeId} {sz by_ : Nat} (hT : ElemT P t e sz by_) {s : Sl} {h : Heap} {xs ys : List Value} {x : Value} {n : Nat} {K : Sl → Heap → Prop}
    (ho : Own h sz s xs) (hx : SrcH P sz tx x n ys h) (hlen : (s.n + n) * by_ ≤ 140737488355328) (h63 : s.n + n ≤ 4611686018427387903)
    (hk : ∀ s' h', Own h' sz s' (xs ++ ys) → s'.n = s.n + n → Upd (fun k => s.blk = some k) h h' → (s'.blk = s.blk ∨ s'.from_ h.size) → (s.n + n ≤ s.c → s' = ⟨s.a, s.n + n, s.c⟩ ∧ h'.size = h.size) → (¬ s.n + n ≤ s.c → Ext h.size h h') → K s' h') :
    OpT P (Builtin.append_ #[t, tx] ty #[.slice s.a s.n s.c, x]) h [.one .sl] K := by
  intro w hw
  obtain ⟨hu, ⟨i, z, hi, hz, hsz, hby, hzs⟩, hpos⟩ := hT
  have hs := hx w hw
  obtain ⟨h1, h2, h3, h4⟩ := ho
  have hyl : ys.length = n * sz := hs.newsLen
  have done : ∀ (s' : Sl) (w' : World), (Builtin.append_ #[t, tx] ty #[.slice s.a s.n s.c, x]).run P w = .ok (.slice s'.a s'.n s'.c) w' → Env w w' → K s' w'.heap →
      ∃ v w', (Builtin.append_ #[t, tx] ty #[.slice s.a s.n s.c, x]).run P w = .ok v w' ∧ Env w w' ∧ ∃ y, v = retV [.one .sl] y ∧ TH.un [.one .sl] K y w'.heap := fun s' w' hr hE hK =>
    ⟨_, w', hr, hE, (s', ()), rfl, hK⟩
  by_cases hroom : s.n + n ≤ s.c
  · rcases h4 with ⟨ha, hc⟩ | ⟨g, o, ha, hg, hcells, hwr⟩
    · -- nothing onto nil
      have hn0 : n = 0 := by omega
      have hs0 : s.n = 0 := by omega
      subst hn0
      have hys : ys = [] := List.eq_nil_of_length_eq_zero (by simpa using hyl)
      have hxs : xs = [] := List.eq_nil_of_length_eq_zero (by rw [h1, hs0]; simp)
      subst hys; subst hxs
      refine done s w ?_ (Env.refl w) ?_
      · exact run_append_nothing w t tx ty e i hu hi s.a s.n s.c (by omega) x (by rw [hsz]; exact hs)
      · rw [hw]
        exact hk s h (by simpa using ⟨h1, h2, h3, .inl ⟨ha, hc⟩⟩) rfl (Upd.refl _ _) (.inl rfl) (fun _ => ⟨rfl, rfl⟩) fun hn => absurd hroom hn
    · have hlt : s.n * sz + ys.length ≤ s.c * sz := by rw [hyl, ← Nat.add_mul]; exact Nat.mul_le_mul_right _ hroom
      have hr := run_append_room_src (P := P) w t tx ty e i hu hi g o s.n s.c x n ys (by rw [hsz]; exact hs) hroom
        (fun j hj => by rw [hsz, Nat.add_assoc, cell_eq, hw]; exact (hwr _ (by omega)).1) (fun j hj => by rw [hsz, Nat.add_assoc, frozen_eq, hw]; exact (hwr _ (by omega)).2)
      rw [hsz] at hr
      rw [← ha] at hr
      refine done ⟨s.a, s.n + n, s.c⟩ _ hr (env_setCells w g ys _) ?_
      have hfr : ∀ y : Addr, frozenH (w.setCells g (o + s.n * sz) ys).heap y = frozenH h y := fun y => by rw [← frozen_eq, World.frozen?_setCells, frozen_eq, hw]
      have hsome : ∀ j, j < ys.length → (w.cell? ⟨g, o + s.n * sz + j, none⟩).isSome = true := fun j hj => by rw [Nat.add_assoc, cell_eq, hw]; exact (hwr _ (by omega)).1
      have hcell : ∀ j, j < (xs ++ ys).length → cellH (w.setCells g (o + s.n * sz) ys).heap ⟨g, o + j, none⟩ = (xs ++ ys)[j]? := fun j hj => by
        rw [← cell_eq]
        by_cases hjx : j < xs.length
        · rw [World.cell?_setCells_out g _ _ _ _ (fun _ _ => .inl (by show o + j < o + s.n * sz; omega)), cell_eq, hw, hcells j hjx, List.getElem?_append_left hjx]
        · have hj' : j - xs.length < ys.length := by rw [List.length_append] at hj; omega
          have := World.cell?_setCells_in g ys (o + s.n * sz) w hsome (j - xs.length) hj'
          rw [show o + s.n * sz + (j - xs.length) = o + j by omega] at this
          rw [this, List.getElem?_append_right (by omega), List.getElem?_eq_getElem hj']
      refine hk _ _ ⟨by rw [List.length_append, h1, hyl]; simp [Nat.add_mul], hroom, h3, .inr ⟨g, o, ha, by rw [size_setCells, hw]; exact hg, hcell, fun j hj => ?_⟩⟩ rfl ⟨by rw [size_setCells, hw]; exact Nat.le_refl _, fun k hk hn => ?_⟩ (.inl rfl) (fun _ => ⟨rfl, by rw [size_setCells, hw]⟩) fun hn => absurd hroom hn
      · refine ⟨?_, by rw [hfr]; exact (hwr j hj).2⟩
        by_cases hj2 : j < (xs ++ ys).length
        · rw [hcell j hj2, List.getElem?_eq_getElem hj2]; rfl
        · rw [← cell_eq, World.cell?_setCells_out g _ _ _ _ (fun _ _ => .inr (by show o + s.n * sz + ys.length ≤ o + j; rw [List.length_append] at hj2; omega)), cell_eq, hw]
          exact (hwr j hj).1
      · rw [get_setCells g ys _ w (fun e => hn (by simp [Sl.blk, ha, e])), hw]
  · have hfit : Builtin.nextslicecap (s.n + n) s.c * i.bytes ≤ 281474976710656 := by
      have := nextcap_le (s.n + n) s.c (by omega)
      rw [hby]
      calc Builtin.nextslicecap (s.n + n) s.c * by_ ≤ (2 * (s.n + n)) * by_ := Nat.mul_le_mul_right _ this
        _ = 2 * ((s.n + n) * by_) := by rw [Nat.mul_assoc]
        _ ≤ 281474976710656 := by omega
    have hold : (Builtin.firstCells i.size s.n (.slice s.a s.n s.c)).run P w.drew = .ok xs.toArray w.drew := by
      rw [hsz]
      rcases h4 with ⟨ha, hc⟩ | ⟨g, o, ha, hg, hcells, hwr⟩
      · have hs0 : s.n = 0 := by omega
        have hxs : xs = [] := List.eq_nil_of_length_eq_zero (by rw [h1, hs0]; simp)
        rw [ha, hxs]
        exact run_firstCells_none w.drew sz s.n s.n s.c
      · rw [ha]
        refine run_firstCells_some w.drew sz s.n _ s.n s.c xs h1 fun j u hj => ?_
        have hjl : j < xs.length := (List.getElem?_eq_some_iff.1 hj).1
        rw [Addr.add_lit]
        show w.cell? ⟨g, o + j, none⟩ = some u
        rw [cell_eq, hw, hcells j hjl, hj]
    have hr := run_append_grow_src (P := P) w t tx ty e i z hu hi hz s.a s.n s.c xs hold x n ys (by rw [hsz]; exact hs) (by omega) (by omega) hfit
    have hge := grownCap_ge w (s.n + n) s.c e
    have hle := grownCap_le_maxLen w (s.n + n) s.c e (by simp only [maxLen]; omega)
    refine done ⟨some ⟨w.heap.size, 0, none⟩, s.n + n, grownCap w (s.n + n) s.c e⟩ _ hr ⟨rfl, rfl, rfl⟩ ?_
    generalize hG : grownCap w (s.n + n) s.c e = G at *
    have hlen2 : ((xs ++ ys).toArray ++ Builtin.zeroCells z.cells (G - (s.n + n))).toList.length = G * sz := by
      simp only [Array.toList_append, List.length_append, Array.length_toList, size_zeroCells, hzs, h1, hyl, ← Nat.add_mul]
      congr 1; omega
    have hb := Blk.new w.heap e ((xs ++ ys).toArray ++ Builtin.zeroCells z.cells (G - (s.n + n))).toList
    have hown := Own.of_blk hb (n := s.n + n) hlen2 hge (by simp only [maxLen] at hle; omega)
    have htake : (((xs ++ ys).toArray ++ Builtin.zeroCells z.cells (G - (s.n + n))).toList).take ((s.n + n) * sz) = xs ++ ys := by
      have hl3 : (xs ++ ys).length = (s.n + n) * sz := by rw [List.length_append, h1, hyl, Nat.add_mul]
      rw [Array.toList_append, ← hl3]
      exact List.take_left
    rw [htake] at hown
    have hheap : (w.drew.alloc (.cells ((xs ++ ys).toArray ++ Builtin.zeroCells z.cells (G - (s.n + n))) e)).heap = w.heap.push (.cells ((xs ++ ys).toArray ++ Builtin.zeroCells z.cells (G - (s.n + n))).toList.toArray e) := rfl
    rw [hheap]
    refine hk _ _ hown rfl ⟨by simp [hw], fun k hk _ => by rw [Array.getElem?_push, if_neg (by rw [hw]; omega), hw]⟩ (.inr fun g hg => ?_) (fun hr => absurd hr hroom) fun _ => by rw [← hw]; exact ext_push _ _ (Nat.le_refl _)
    simp only [Sl.blk, Option.map_some, Option.some.injEq] at hg
    rw [← hg, hw]; exact Nat.le_refl _
theorem opT_app_room {P : Program} {t tx ty e : TypeId} {sz by_ : Nat} (hT : ElemT P t e sz by_) {s : Sl} {h : Heap} {xs ys : List Value} {x : Value} {n : Nat} {K : Sl → Heap → Prop}
    (ho : Own h sz s xs) (hx : SrcH P sz tx x n ys h) (hlen : (s.n + n) * by_ ≤ 140737488355328) (h63 : s.n + n ≤ 4611686018427387903)
    (hk : ∀ s' h', Own h' sz s' (xs ++ ys) → s'.n = s.n + n → Upd (fun k => s.blk = some k) h h' → (s'.blk = s.blk ∨ s'.from_ h.size) → (s.n + n ≤ s.c → s' = ⟨s.a, s.n + n, s.c⟩ ∧ h'.size = h.size) → K s' h') :
    OpT P (Builtin.append_ #[t, tx] ty #[.slice s.a s.n s.c, x]) h [.one .sl] K :=
  opT_app_full hT ho hx hlen h63 fun s' h' a b c d r _ => hk s' h' a b c d r
/-- What was read of the slice that is appended to is read still. -/
theorem own_prefix {h' : Heap} {sz : Nat} {s : Sl} {xs ys : List Value} {m c : Nat} (hl : xs.length = s.n * sz) (ho : Own h' sz ⟨s.a, m, c⟩ (xs ++ ys)) : RdS h' sz s xs := by
  refine ⟨hl, fun hp => ?_⟩
  obtain ⟨g, o, ha, hx⟩ := ho.rd.2 (by rw [List.length_append]; omega)
  exact ⟨g, o, ha, fun j hj => (hx j (by rw [List.length_append]; omega)).trans (List.getElem?_append_left hj)⟩
theorem app_old {P : Program} {t ty e : TypeId} {sz by_ : Nat} (hT : ElemT P t e sz by_) {s x : Sl} {h : Heap} {xs ys : List Value} {K : Sl → Heap → Prop}
    (ho : Own h sz s xs) (hx : RdS h sz x ys) (h1 : ∀ u ∈ ys, u.oneCell' = true) (hlen : (s.n + x.n) * by_ ≤ 140737488355328) (h63 : s.n + x.n ≤ 4611686018427387903)
    (hk : ∀ s' h', Own h' sz s' (xs ++ ys) → s'.n = s.n + x.n → Upd (fun k => s.blk = some k) h h' → (s'.blk = s.blk ∨ s'.from_ h.size) → RdS h' sz s xs → K s' h') : App P t ty s x h K :=
  opT_app_full hT ho (.slice hT.und hx h1 hT.pos) hlen h63 fun s' h' a b c d r q => hk s' h' a b c d (by
    by_cases hr : s.n + x.n ≤ s.c
    · obtain ⟨e, _⟩ := r hr
      subst e
      exact own_prefix ho.1 a
    · exact ho.rd.ext' (q hr))
theorem opT_app {P : Program} {t tx ty e : TypeId} {sz by_ : Nat} (hT : ElemT P t e sz by_) {s : Sl} {h : Heap} {xs ys : List Value} {x : Value} {n : Nat} {K : Sl → Heap → Prop}
    (ho : Own h sz s xs) (hx : SrcH P sz tx x n ys h) (hlen : (s.n + n) * by_ ≤ 140737488355328) (h63 : s.n + n ≤ 4611686018427387903)
    (hk : ∀ s' h', Own h' sz s' (xs ++ ys) → s'.n = s.n + n → Upd (fun k => s.blk = some k) h h' → (s'.blk = s.blk ∨ s'.from_ h.size) → K s' h') :
    OpT P (Builtin.append_ #[t, tx] ty #[.slice s.a s.n s.c, x]) h [.one .sl] K :=
  opT_app_room hT ho hx hlen h63 fun s' h' a b c d _ => hk s' h' a b c d
theorem app_room {P : Program} {t ty e : TypeId} {sz by_ : Nat} (hT : ElemT P t e sz by_) {s x : Sl} {h : Heap} {xs ys : List Value} {K : Sl → Heap → Prop}
    (ho : Own h sz s xs) (hx : RdS h sz x ys) (h1 : ∀ u ∈ ys, u.oneCell' = true) (hlen : (s.n + x.n) * by_ ≤ 140737488355328) (hroom : s.n + x.n ≤ s.c) (h63 : s.n + x.n ≤ 4611686018427387903)
    (hk : ∀ h', Own h' sz ⟨s.a, s.n + x.n, s.c⟩ (xs ++ ys) → Upd (fun k => s.blk = some k) h h' → h'.size = h.size → K ⟨s.a, s.n + x.n, s.c⟩ h') : App P t ty s x h K :=
  opT_app_room hT ho (.slice hT.und hx h1 hT.pos) hlen h63 fun s' h' a _ c _ r => by
    obtain ⟨rfl, e⟩ := r hroom
    exact hk h' a c e
theorem app {P : Program} {t ty e : TypeId} {sz by_ : Nat} (hT : ElemT P t e sz by_) {s x : Sl} {h : Heap} {xs ys : List Value} {K : Sl → Heap → Prop}
    (ho : Own h sz s xs) (hx : RdS h sz x ys) (h1 : ∀ u ∈ ys, u.oneCell' = true) (hlen : (s.n + x.n) * by_ ≤ 140737488355328) (h63 : s.n + x.n ≤ 4611686018427387903)
    (hk : ∀ s' h', Own h' sz s' (xs ++ ys) → s'.n = s.n + x.n → Upd (fun k => s.blk = some k) h h' → (s'.blk = s.blk ∨ s'.from_ h.size) → K s' h') : App P t ty s x h K :=
  opT_app hT ho (.slice hT.und hx h1 hT.pos) hlen h63 hk
end Go.Proofs.YtniojdaddolnfaaGreat

/-
  From what a law's call comes to over the heap alone to what the row's step asks.
-/
namespace Go.Proofs.YtniojdaddolnfaaGreat
open Go Go.RowKit
theorem row_calls {P : Program} {f : FuncId} {args : List Value} {w : World} (hc : CallR P f args w.heap [.one .bool] fun r h' => r = true ∧ Ext w.heap.size w.heap h') :
    Calls P f ⟨args⟩ w fun e w' => e = .returned (.bool true) ∧ Below w.heap.size w w' := by
  refine (hc w rfl).mono fun e w' ⟨hE, x, he, hx⟩ => ?_
  have h1 : x.1 = true := hx.1
  have h2 : Ext w.heap.size w.heap w'.heap := hx.2
  refine ⟨?_, hE.os, hE.tape, hE.output, h2.1, h2.2⟩
  rw [he]
  show Ending.returned (.bool x.1) = _
  rw [h1]
theorem wf_bd {n : Int} (h : (Lit.int .i64 n).wf = true) : -9223372036854775808 ≤ n ∧ n ≤ 9223372036854775807 := by
  simp [Lit.wf, IntKind.min, IntKind.max, IntKind.bits, IntKind.signed] at h; omega
theorem wf_u8 {n : Int} (h : (Lit.int .u8 n).wf = true) : 0 ≤ n ∧ n ≤ 255 := by
  simp [Lit.wf, IntKind.min, IntKind.max, IntKind.bits, IntKind.signed] at h; omega
theorem wf_u16 {n : Int} (h : (Lit.int .u16 n).wf = true) : 0 ≤ n ∧ n ≤ 65535 := by
  simp [Lit.wf, IntKind.min, IntKind.max, IntKind.bits, IntKind.signed] at h; omega
theorem wf_u32 {n : Int} (h : (Lit.int .u32 n).wf = true) : 0 ≤ n ∧ n ≤ 4294967295 := by
  simp [Lit.wf, IntKind.min, IntKind.max, IntKind.bits, IntKind.signed] at h; omega
theorem wf_u64 {n : Int} (h : (Lit.int .u64 n).wf = true) : 0 ≤ n ∧ n ≤ 18446744073709551615 := by
  simp [Lit.wf, IntKind.min, IntKind.max, IntKind.bits, IntKind.signed] at h; omega
end Go.Proofs.YtniojdaddolnfaaGreat
