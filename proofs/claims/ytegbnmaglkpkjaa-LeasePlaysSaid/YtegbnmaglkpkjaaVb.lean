/-
  One operation as a predicate over the heap, and that the model does what it says; regions in the text's order.
-/
import Derived.Test.YtegbnmaglkpkjaaVa
import Derived.Tactics
namespace Go.Proofs.Ytegbnmaglkpkjaa
open Go

def evS (σ : Nat → Value) : Operand → Value
  | .tmp t => σ t
  | .const v => v
  | .global g => .pointer (some ⟨g, 0, none⟩)
  | .func f => .func (.func f) #[] #[]
def up (σ : Nat → Value) (d : Nat) (v : Value) : Nat → Value := fun t => cond (Nat.beq t d) v (σ t)
def putS (σ : Nat → Value) : Option Tmp → Value → Nat → Value
  | some d, v => up σ d v
  | none, _ => σ
def pickV (t : Bool) (x y : Value) : Value :=
  match x, y with
  | .bool a, .bool b => .bool (cond t a b)
  | x, y => cond t x y
theorem pickV_eq (t : Bool) (x y : Value) : pickV t x y = cond t x y := by
  unfold pickV
  split
  · cases t <;> rfl
  · rfl
abbrev Kont := (Nat → Value) → Heap → Prop

/-- A computation of the model that answers one value, whatever is drawn, and leaves the heap alone. -/
def OpV (P : Program) (s : Sem Value) (h : Heap) (ss : List Sh) (K : TH Prop ss) : Prop :=
  ∃ x, (∀ w : World, w.heap = h → ∃ w', s.run P w = .ok (retV ss x) w' ∧ Env w w' ∧ w'.heap = h) ∧ TH.un ss K x
/-- The same, whatever the heap. -/
def OpP (P : Program) (s : Sem Value) (ss : List Sh) (K : TH Prop ss) : Prop :=
  ∃ x, (∀ w : World, s.run P w = .ok (retV ss x) w) ∧ TH.un ss K x
/-- A call of a function of the model's own table. -/
def ExtR (P : Program) (f : FuncId) (args : Array Value) (h : Heap) (ss : List Sh) (K : TH (Heap → Prop) ss) : Prop :=
  RunsH P (callFunc f args) h fun nx h' => ∃ x, nx = .value (retV ss x) ∧ TH.un ss K x h'

/-- A variable of a type that is read. -/
def LdS (P : Program) (t : TypeId) (h : Heap) (a : Addr) (K : Value → Prop) : Prop :=
  match shOf P t with
  | .one k => Ld k h a fun x => K (k.mk x)
  | .agg ks => LdL h a 0 ks fun vs => K (.agg ⟨vs⟩)
  | .raw => OpV P (Instr.loadAt t (.pointer (some a))) h [.raw] fun cs => K (.agg cs)

section
variable (P : Program)
def genP (o : Oper) (σ : Nat → Value) (K : Value → Prop) : Prop :=
  match semP P (execOp (evS σ) o) with
  | some (.value v) => K v
  | _ => False
def genA (o : Oper) (σ : Nat → Value) (h : Heap) (K : Value → Heap → Prop) : Prop :=
  match semA P (execOp (evS σ) o) h with
  | some (.value v, h') => K v h'
  | _ => False
def tT (ss : List Sh) (K : Value → Heap → Prop) : TH (Heap → Prop) ss := TH.cu ss fun x => K (retV ss x)
def tP (ss : List Sh) (K : Value → Prop) : TH Prop ss := TH.cu ss fun x => K (retV ss x)

def isPtr : Option TypeDesc → Bool
  | some (.pointer _) => true
  | _ => false
def isSlc : Option TypeDesc → Bool
  | some (.slice _) => true
  | _ => false
def isMap : Option TypeDesc → Bool
  | some (.map _ _) => true
  | _ => false
def isStr : Option TypeDesc → Bool
  | some .string => true
  | _ => false
def basicT : Option TypeDesc → Bool
  | some (.int _) => true
  | some .string => true
  | some .bool => true
  | _ => false
def neg? (op : BinOp) (b : Bool) : Bool :=
  match op with
  | .neq => !b
  | _ => b
/-- '==', '!='. -/
def eqW (o : Oper) (op : BinOp) (t : TypeId) (x y : Operand) (σ : Nat → Value) (h : Heap) (K : Value → Prop) : Prop :=
  match y with
  | .const (.pointer none) => match evS σ x with
    | .pointer a => if isPtr (P.underlying t) then K (.bool (neg? op a.isNone)) else False
    | _ => False
  | .const (.slice none _ _) => match evS σ x with
    | .slice a _ _ => if isSlc (P.underlying t) then K (.bool (neg? op a.isNone)) else False
    | _ => False
  | .const (.map none) => match evS σ x with
    | .map a => if isMap (P.underlying t) then K (.bool (neg? op a.isNone)) else False
    | _ => False
  | y => if basicT (P.underlying t) then genP P o σ K
    else OpV P (do eqGuard op t x y (evS σ x) (evS σ y); binOp op t (evS σ x) (evS σ y)) h [.one .bool] (fun b => K (.bool b))
def shiftV (op : BinOp) (k : IntKind) (m n : Int) : Int :=
  match op with
  | .shl => k.wrap (m * 2 ^ (min n.toNat k.bits))
  | _ => m.fdiv (2 ^ (min n.toNat k.bits))
def divV (op : BinOp) (k : IntKind) (m n : Int) : Int :=
  match op with
  | .quo => k.wrap (m.tdiv n)
  | _ => m.tmod n
def binW (o : Oper) (op : BinOp) (t : TypeId) (x y : Operand) (σ : Nat → Value) (h : Heap) (K : Value → Prop) : Prop :=
  match op with
  | .eql => eqW P o .eql t x y σ h K
  | .neq => eqW P o .neq t x y σ h K
  | .quo => match evS σ x, evS σ y with
    | .int k m, .int k' n => if k = k' then Nz n (K (.int k (divV .quo k m n))) else False
    | _, _ => False
  | .rem => match evS σ x, evS σ y with
    | .int k m, .int k' n => if k = k' then Nz n (K (.int k (divV .rem k m n))) else False
    | _, _ => False
  | .shl => match evS σ x, evS σ y with
    | .int k m, .int _ n => Nneg n (K (.int k (shiftV .shl k m n)))
    | _, _ => False
  | .shr => match evS σ x, evS σ y with
    | .int k m, .int _ n => Nneg n (K (.int k (shiftV .shr k m n)))
    | _, _ => False
  | .add => match evS σ x with
    | .string s => match evS σ y with
      | .string t => Cat s t fun r => K (.string r)
      | _ => False
    | _ => genP P o σ K
  | _ => genP P o σ K
def idxW (t : TypeId) (x i : Value) (K : Value → Prop) : Prop :=
  match P.underlying t with
  | some (.slice e) => match P.info? e with
    | some j => match x with
      | .slice a n c => match i with
        | .int _ i => Ix ⟨a, n, c⟩ i j.size fun a' => K (.pointer (some a'))
        | _ => False
      | _ => False
    | none => False
  | some (.array n e) => match P.info? e with
    | some j => match x with
      | .pointer (some a) => match i with
        | .int _ i => IxA a n i j.size fun a' => K (.pointer (some a'))
        | _ => False
      | _ => False
    | none => False
  | _ => False
def indexW (o : Oper) (t : TypeId) (x i : Value) (K : Value → Prop) : Prop :=
  match P.underlying t with
  | some .string => match x with
    | .string s => match i with
      | .int _ i => IxS s i fun n => K (.int .u8 n)
      | _ => False
    | _ => False
  | _ => OpP P (Instr.index t x i) (shsOf P o.type) (tP (shsOf P o.type) K)
def convW (o : Oper) (src dst : TypeId) (x : Value) (σ : Nat → Value) (h : Heap) (K : Value → Heap → Prop) : Prop :=
  if isSlc (P.underlying dst) then OpT P (convert src dst x) h (shsOf P o.type) (tT (shsOf P o.type) K)
  else if isSlc (P.underlying src) && isStr (P.underlying dst) then OpV P (convert src dst x) h (shsOf P o.type) (tP (shsOf P o.type) fun v => K v h)
  else genP P o σ fun v => K v h
def bltW (o : Oper) (b : Builtin) (c : Call) (σ : Nat → Value) (h : Heap) (K : Value → Heap → Prop) : Prop :=
  match b with
  | .len => if isMap ((c.argTypes[0]?).bind P.underlying) then OpV P (Builtin.len_ c.argTypes o.type (c.args.map (evS σ))) h [.one (.int .i64)] (fun n => K (.int .i64 n) h)
    else genP P o σ fun v => K v h
  | .cap => genP P o σ fun v => K v h
  | .min => genP P o σ fun v => K v h
  | .max => genP P o σ fun v => K v h
  | .append => OpT P (Builtin.append_ c.argTypes o.type (c.args.map (evS σ))) h (shsOf P o.type) (tT (shsOf P o.type) K)
  | .copy => OpT P (Builtin.copy_ c.argTypes o.type (c.args.map (evS σ))) h [.one (.int .i64)] (tT [.one (.int .i64)] K)
  | .clear => OpT P (Builtin.clear_ c.argTypes o.type (c.args.map (evS σ))) h [] (tT [] K)
  | .delete => OpT P (Builtin.delete_ c.argTypes o.type (c.args.map (evS σ))) h [] (tT [] K)
  | _ => False
/-- The method that an interface's value has by this name. -/
def mthW (x : Value) (m : String) : Option (FuncId × Value) :=
  match x with
  | .iface t v => semP P (method (P.types.size + Made.depth) t v m)
  | _ => none
/-- A call through an interface. -/
def Invk (x : Value) (m : String) (args : List Value) (h : Heap) (ss : List Sh) (R : TH (Heap → Prop) ss) : Prop :=
  match mthW P x m with
  | some (g, rv) => okF P g = true ∧ CallR P g (rv :: args) h ss R
  | none => False
def callW (o : Oper) (c : Call) (σ : Nat → Value) (h : Heap) (K : Value → Heap → Prop) : Prop :=
  match c.callee with
  | .builtin b => bltW P o b c σ h K
  | .value f => match evS σ f with
    | .func (.func g) first cap => cond (okF P g) (CallR P g (first ++ c.args.map (evS σ) ++ cap).toList h (shsOf P o.type) (tT (shsOf P o.type) K))
        (ExtR P g (first ++ c.args.map (evS σ) ++ cap) h (shsOf P o.type) (tT (shsOf P o.type) K))
    | _ => False
  | .invoke r m => Invk P (evS σ r) m (c.args.map (evS σ)).toList h (shsOf P o.type) (tT (shsOf P o.type) K)
/-- A value that mustn't be nil. -/
def NnI (x : Value) (K : Value → Prop) : Prop :=
  match x with
  | .pointer a => Nn a fun a' => K (.pointer (some a'))
  | .iface t v => K (.iface t v)
  | .func (.func f) a b => K (.func (.func f) a b)
  | _ => False
/-- What an operation asks of slots and heap, and what it hands on: its value, and the heap behind it. -/
def opW (o : Oper) (σ : Nat → Value) (h : Heap) (K : Value → Heap → Prop) : Prop :=
  match o.op with
  | .move x => K (evS σ x) h
  | .assign x => K (evS σ x) h
  | .pick c a b => match evS σ c with
    | .bool t => K (pickV t (evS σ a) (evS σ b)) h
    | _ => False
  | .load t x => match evS σ x with
    | .pointer (some a) => LdS P t h a fun v => K v h
    | _ => False
  | .store t x v => match evS σ x with
    | .pointer (some a) => StS P t h a (evS σ v) fun h' => K undef h'
    | _ => False
  | .nilCheck x => NnI (evS σ x) fun v => K v h
  | .binOp op t x y _ => binW P o op t x y σ h fun v => K v h
  | .convert src dst x => convW P o src dst (evS σ x) σ h K
  | .indexAddr t x i => idxW P t (evS σ x) (evS σ i) fun v => K v h
  | .index t x i => indexW P o t (evS σ x) (evS σ i) fun v => K v h
  | .slice t x lo hi mx => OpP P (Instr.sliceAt t (evS σ x) (lo.map (evS σ)) (hi.map (evS σ)) (mx.map (evS σ))) (shsOf P o.type) (tP (shsOf P o.type) fun v => K v h)
  | .call c => callW P o c σ h K
  | .lookup t x i ok => OpV P (Instr.lookup t (evS σ x) (evS σ i) ok) h (shsOf P o.type) (tP (shsOf P o.type) fun v => K v h)
  | .mapUpdate t m k x => OpU P (Instr.mapUpdate t (evS σ m) (evS σ k) (evS σ x)) h fun h' => K undef h'
  | .insert t m k x => OpU P (Instr.mapUpdate t (evS σ m) (evS σ k) (evS σ x)) h fun h' => K undef h'
  | .makeSlice t l c => OpT P (Instr.makeSlice t (evS σ l) (evS σ c)) h [.one .sl] (tT [.one .sl] K)
  | .makeMap t r => OpT P (Instr.makeMap t (r.map (evS σ))) h [.one .map] (tT [.one .map] K)
  | .range t x => OpT P (Instr.range t (evS σ x)) h [.one .ptr] (tT [.one .ptr] K)
  | .next it s => OpT P (Instr.next (evS σ it) s o.type) h (shsOf P o.type) (tT (shsOf P o.type) K)
  | .typeAssert x t u ok => OpV P (Instr.typeAssert (evS σ x) t u ok) h (shsOf P o.type) (tP (shsOf P o.type) fun v => K v h)
  | .alloc _ => genA P o σ h K
  | .box _ _ => genA P o σ h K
  | .buildSlice _ _ _ => genA P o σ h K
  | .unOp _ _ _ => genP P o σ fun v => K v h
  | .fieldAddr _ _ _ => genP P o σ fun v => K v h
  | .field _ _ _ => genP P o σ fun v => K v h
  | .extract _ _ => genP P o σ fun v => K v h
  | .build _ _ => genP P o σ fun v => K v h
  | .makeFunc _ _ _ => genP P o σ fun v => K v h
  | .makeInterface _ _ => genP P o σ fun v => K v h
  | _ => False

/-! ## The model does so -/
/-- What an operation's run comes to. -/
def Done (K : Value → Heap → Prop) (w₀ : World) : Result Next → Prop
  | .ok (.value v) w' => Env w₀ w' ∧ K v w'.heap
  | .ok .skip w' => Env w₀ w' ∧ K undef w'.heap
  | .ok (.enter f args) w' => Env w₀ w' ∧ CallsH P f args w'.heap fun e h' => ∃ v, e = .returned v ∧ K v h'
  | _ => False
/-- The run of an operation that answers a value and changes nothing. -/
def Ans (o : Oper) (σ : Nat → Value) (h : Heap) (v : Value) : Prop :=
  ∀ w : World, w.heap = h → ∃ w', (execOp (evS σ) o).run P w = .ok (.value v) w' ∧ Env w w' ∧ w'.heap = h

theorem run_map_value (s : Sem Value) (w : World) : (do let v ← s; pure (Next.value v) : Sem Next).run P w =
    match s.run P w with
    | .ok v w' => .ok (.value v) w'
    | .halt x w' => .halt x w' := by
  rw [Sem.run_bind]
  cases s.run P w <;> rfl
theorem run_map_skip (s : Sem Unit) (w : World) : (do s; pure Next.skip : Sem Next).run P w =
    match s.run P w with
    | .ok _ w' => .ok .skip w'
    | .halt x w' => .halt x w' := by
  rw [Sem.run_bind]
  cases s.run P w <;> rfl

theorem tT_un (ss : List Sh) (K : Value → Heap → Prop) (x : HL ss) : TH.un ss (tT ss K) x = K (retV ss x) := TH.un_cu ss _ x
theorem tP_un (ss : List Sh) (K : Value → Prop) (x : HL ss) : TH.un ss (tP ss K) x = K (retV ss x) := TH.un_cu ss _ x

variable {P}
theorem genP_ans {o : Oper} {σ : Nat → Value} {K : Value → Prop} (hg : genP P o σ K) : ∃ v, K v ∧ ∀ h, Ans P o σ h v := by
  unfold genP at hg
  split at hg
  · rename_i v e
    exact ⟨v, hg, fun h w hw => ⟨w, semP_run _ w e, Env.refl w, hw⟩⟩
  · exact hg.elim
theorem genA_done {o : Oper} {σ : Nat → Value} {h : Heap} {K : Value → Heap → Prop} (hg : genA P o σ h K) (w : World) (hw : w.heap = h) : Done P K w ((execOp (evS σ) o).run P w) := by
  subst hw
  unfold genA at hg
  split at hg
  · rename_i v h' e
    rw [semA_run _ w e]
    exact ⟨⟨rfl, rfl, rfl⟩, hg⟩
  · exact hg.elim
theorem Ans.done {o : Oper} {σ : Nat → Value} {h : Heap} {v : Value} {K : Value → Heap → Prop} (ha : Ans P o σ h v) (hk : K v h) (w : World) (hw : w.heap = h) : Done P K w ((execOp (evS σ) o).run P w) := by
  obtain ⟨w', e, he, e2⟩ := ha w hw
  rw [e]
  exact ⟨he, by rw [e2]; exact hk⟩
theorem ans_of {o : Oper} {σ : Nat → Value} {h : Heap} {s : Sem Value} (he : execOp (evS σ) o = (do let v ← s; pure (Next.value v))) {v : Value}
    (hs : ∀ w : World, w.heap = h → ∃ w', s.run P w = .ok v w' ∧ Env w w' ∧ w'.heap = h) : Ans P o σ h v := by
  intro w hw
  obtain ⟨w', e, he2, e2⟩ := hs w hw
  exact ⟨w', by rw [he, run_map_value, e], he2, e2⟩
theorem ans_pure {o : Oper} {σ : Nat → Value} {v : Value} (h : Heap) (he : execOp (evS σ) o = pure (Next.value v)) : Ans P o σ h v :=
  fun w hw => ⟨w, by rw [he]; rfl, Env.refl w, hw⟩
theorem OpV.ans {o : Oper} {σ : Nat → Value} {h : Heap} {s : Sem Value} {ss : List Sh} {K : Value → Prop} (he : execOp (evS σ) o = (do let v ← s; pure (Next.value v)))
    (hv : OpV P s h ss (tP ss K)) : ∃ v, K v ∧ Ans P o σ h v := by
  obtain ⟨x, hr, hk⟩ := hv
  rw [tP_un] at hk
  exact ⟨_, hk, ans_of he hr⟩
theorem OpP.ans {o : Oper} {σ : Nat → Value} {s : Sem Value} {ss : List Sh} {K : Value → Prop} (he : execOp (evS σ) o = (do let v ← s; pure (Next.value v)))
    (hv : OpP P s ss (tP ss K)) : ∃ v, K v ∧ ∀ h, Ans P o σ h v := by
  obtain ⟨x, hr, hk⟩ := hv
  rw [tP_un] at hk
  exact ⟨_, hk, fun h => ans_of he fun w hw => ⟨w, hr w, Env.refl w, hw⟩⟩
theorem OpT.done {o : Oper} {σ : Nat → Value} {h : Heap} {s : Sem Value} {ss : List Sh} {K : Value → Heap → Prop} (he : execOp (evS σ) o = (do let v ← s; pure (Next.value v)))
    (hv : OpT P s h ss (tT ss K)) (w : World) (hw : w.heap = h) : Done P K w ((execOp (evS σ) o).run P w) := by
  obtain ⟨v, w', hr, hE, x, rfl, hk⟩ := hv w hw
  rw [tT_un] at hk
  rw [he, run_map_value, hr]
  exact ⟨hE, hk⟩
theorem OpU.done {o : Oper} {σ : Nat → Value} {h : Heap} {s : Sem Unit} {K : Value → Heap → Prop} (he : execOp (evS σ) o = (do s; pure Next.skip))
    (hv : OpU P s h fun h' => K undef h') (w : World) (hw : w.heap = h) : Done P K w ((execOp (evS σ) o).run P w) := by
  obtain ⟨v, w', hr, hE, hk⟩ := hv w hw
  rw [he, run_map_skip, hr]
  exact ⟨hE, hk⟩

/-! ### Loads and stores -/
theorem LdL_run {h : Heap} {a : Addr} : ∀ (ks : List Kd) (i : Nat) (K : List Value → Prop), LdL h a i ks K →
    ∃ vs, K vs ∧ ∀ (w : World) (acc : Array Value), w.heap = h → (loadCellsFrom a i ks.length acc).run P w = .ok (acc ++ vs.toArray) w
  | [], i, K, hK => ⟨[], hK, fun w acc _ => by simp [loadCellsFrom]⟩
  | k :: ks, i, K, ⟨x, hx, hr⟩ => by
    obtain ⟨vs, hv, hrun⟩ := LdL_run ks (i + 1) _ hr
    refine ⟨k.mk x :: vs, hv, fun w acc hw => ?_⟩
    have hc : w.cell? (a.add i) = some (k.mk x) := by rw [cell_eq, hw]; exact hx
    have hl : ∀ (f : Value → Sem (Array Value)), (load (a.add i) >>= f).run P w = (f (k.mk x)).run P w := fun f => by
      show (Sem.load .plain (a.add i) _).run P w = _
      simp only [Sem.run, hc]
      rfl
    simp only [List.length_cons, loadCellsFrom]
    rw [hl, hrun w _ hw]
    simp
theorem run_isAgg {t : TypeId} {d : TypeDesc} (hd : P.underlying t = some d) (w : World) : (isAgg t).run P w = .ok (aggD (some d)) w := by
  unfold isAgg
  rw [Sem.run_bind, run_underlying hd]
  cases d <;> rfl
theorem LdS_run {t : TypeId} {h : Heap} {a : Addr} {K : Value → Prop} (hl : LdS P t h a K) :
    ∃ v, K v ∧ ∀ w : World, w.heap = h → ∃ w', (Instr.loadAt t (.pointer (some a))).run P w = .ok v w' ∧ Env w w' ∧ w'.heap = h := by
  unfold LdS at hl
  have hsz : ∀ i, P.info? t = some i → ∀ w, (sizeOf t).run P w = .ok i.size w := fun i hi w => by
    unfold sizeOf; rw [Sem.run_bind, show (typeInfo t).run P w = .ok i w by simp [typeInfo, hi, program, Sem.run_bind, Sem.run]]; rfl
  split at hl
  · rename_i k hk
    obtain ⟨x, hx, hK⟩ := hl
    refine ⟨_, hK, fun w hw => ⟨w, ?_, Env.refl w, hw⟩⟩
    unfold shOf at hk
    split at hk
    · cases hk
    · rename_i d hd
      split at hk
      · cases hk
      · rename_i i hi
        split at hk
        · split at hk
          · split at hk <;> cases hk
          · cases hk
        · rename_i hag
          have hc : w.cell? a = some (k.mk x) := by rw [cell_eq, hw]; exact hx
          simp only [Instr.loadAt, Instr.sureAddr, Sem.run_bind, Sem.run_pure, Result.andThen_ok, loadVar, run_isAgg hd]
          rw [if_neg (by simpa using hag)]
          show (Sem.load .plain a _).run P w = _
          simp only [Sem.run, hc]
  · rename_i ks hk
    obtain ⟨vs, hv, hrun⟩ := LdL_run (P := P) ks 0 _ hl
    refine ⟨_, hv, fun w hw => ⟨w, ?_, Env.refl w, hw⟩⟩
    unfold shOf at hk
    split at hk
    · cases hk
    · rename_i d hd
      split at hk
      · cases hk
      · rename_i i hi
        split at hk
        · rename_i hag
          split at hk
          · rename_i cs hz
            split at hk
            · rename_i hsize
              injection hk with hk
              have hlen : ks.length = i.size := by rw [← hk]; simp [hsize.1]
              simp only [Instr.loadAt, Instr.sureAddr, Sem.run_bind, Sem.run_pure, Result.andThen_ok, loadVar, run_isAgg hd]
              rw [if_pos (by simpa using hag)]
              simp only [Sem.run_bind, hsz i hi, Result.andThen_ok, loadCells, ← hlen, hrun w #[] hw]
              simp
            · cases hk
          · cases hk
        · split at hk <;> cases hk
  · obtain ⟨x, hr, hK⟩ := hl
    exact ⟨_, hK, hr⟩
theorem StL_run {a : Addr} : ∀ (vs : List Value) (i : Nat) (h : Heap) (K : Heap → Prop), StL h a i vs K →
    ∀ w : World, w.heap = h → ∃ w', (storeCells a vs i).run P w = .ok () w' ∧ Env w w' ∧ K w'.heap
  | [], i, h, K, hK, w, hw => ⟨w, rfl, Env.refl w, by rw [hw]; exact hK⟩
  | v :: vs, i, h, K, hK, w, hw => by
    unfold StL at hK
    split at hK
    · rename_i h1
      obtain ⟨hc, hf, hr⟩ := hK
      obtain ⟨w', hrun, hE, hk⟩ := StL_run vs (i + 1) _ K hr (w.setCell (a.add i) v) (by rw [set_eq, hw])
      refine ⟨w', ?_, Env.trans (b := w.setCell (a.add i) v) ⟨rfl, rfl, rfl⟩ hE, hk⟩
      have hc' : (w.cell? (a.add i)).isSome = true := by rw [cell_eq, hw]; exact hc
      have hf' : w.frozen? (a.add i) = false := by rw [frozen_eq, hw]; exact hf
      obtain ⟨u, hu⟩ := Option.isSome_iff_exists.1 hc'
      have hst : (store (a.add i) v).run P w = .ok () (w.setCell (a.add i) v) := by
        show (Sem.store .plain (a.add i) v _).run P w = _
        cases v <;> first | (simp [one1] at h1; done) | simp [Sem.run, hu, hf']
      simp only [storeCells, Sem.run_bind, hst, Result.andThen_ok]
      exact hrun
    · exact hK.elim
theorem StS_run {t : TypeId} {h : Heap} {a : Addr} {v : Value} {K : Heap → Prop} (hs : StS P t h a v K) (w : World) (hw : w.heap = h) :
    ∃ w', (Instr.storeAt t (.pointer (some a)) v).run P w = .ok () w' ∧ Env w w' ∧ K w'.heap := by
  unfold StS at hs
  split at hs
  · exact hs.elim
  · rename_i i hi
    split at hs
    · rename_i hsz
      obtain ⟨w', hr, hE, hk⟩ := StL_run (P := P) _ _ _ _ hs w hw
      refine ⟨w', ?_, hE, hk⟩
      have h1 : (sizeOf t).run P w = .ok i.size w := by unfold sizeOf; rw [Sem.run_bind, show (typeInfo t).run P w = .ok i w by simp [typeInfo, hi, program, Sem.run_bind, Sem.run]]; rfl
      simp only [Instr.storeAt, Instr.sureAddr, Sem.run_bind, Sem.run_pure, Result.andThen_ok, storeVar, h1]
      rw [if_neg (by simp [hsz])]
      exact hr
    · exact hs.elim
end
end Go.Proofs.Ytegbnmaglkpkjaa
