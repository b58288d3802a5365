/-
  Regions: in the text's order; and such as draw their order: one walk in a fixed order, with what was read read again behind each writing operation that it is not ordered to.
-/
import Derived.Test.YtegbnmaglkpkjaaVc
import Derived.Deep.LoopGhost
namespace Go.Proofs.Ytegbnmaglkpkjaa
open Go

theorem beq_ff {t d : Nat} (h : t ≠ d) : Nat.beq t d = false := by
  cases e : Nat.beq t d with
  | true => exact absurd (Nat.eq_of_beq_eq_true e) h
  | false => rfl
/-- The frame's slots are as 'σ' says. -/
structure Fr (n : Nat) (a : Act) (σ : Nat → Value) : Prop where
  size : a.tmps.size = n
  defers : a.defers = []
  at_ : ∀ t, a.tmps.getD t undef = σ t
theorem Fr.eval {n : Nat} {a : Act} {σ : Nat → Value} (h : Fr n a σ) : a.eval = evS σ := by
  funext x
  cases x with
  | tmp t => exact h.at_ t
  | _ => rfl
theorem Fr.put {n : Nat} {a : Act} {σ : Nat → Value} (h : Fr n a σ) (o : Option Tmp) (hd : ∀ d, o = some d → d < n) (v : Value) : Fr n (a.put o v) (putS σ o v) := by
  cases o with
  | none => exact h
  | some d =>
    have hd := hd d rfl
    refine ⟨by simp [Act.put, h.size], h.defers, fun t => ?_⟩
    by_cases e : t = d
    · subst e
      have : t < a.tmps.size := by rw [h.size]; exact hd
      simp [Act.put, putS, up, Array.getD, this]
    · have e1 : Nat.beq t d = false := beq_ff e
      have e2 : d ≠ t := fun x => e x.symm
      have := h.at_ t
      simp only [Act.put, putS, up, e1, cond_false]
      rw [← this]
      simp [Array.getD_eq_getD_getElem?, Array.getElem?_setIfInBounds_ne e2]
theorem up_self (σ : Nat → Value) (d : Nat) : up σ d (σ d) = σ := by
  funext t
  unfold up
  cases e : Nat.beq t d with
  | true => have : t = d := by simpa using e
            rw [this]; rfl
  | false => rfl
theorem up_ne {σ : Nat → Value} {d t : Nat} {v : Value} (h : t ≠ d) : up σ d v t = σ t := by
  have e : Nat.beq t d = false := beq_ff h
  simp [up, e]
theorem up_eq {σ : Nat → Value} {d : Nat} {v : Value} : up σ d v d = v := by
  have e : Nat.beq d d = true := by simp
  simp [up, e]
theorem putS_ne {σ : Nat → Value} {o : Option Tmp} {t : Nat} {v : Value} (h : o ≠ some t) : putS σ o v t = σ t := by
  cases o with
  | none => rfl
  | some d => exact up_ne fun e => h (by rw [e])

section
variable (P : Program) (ops : Array Oper)
/-- An operation under its guard: what is run, what is passed over. -/
def runB (o : Oper) (d : Nat) (b want : Bool) (σ : Nat → Value) (h : Heap) (Kr Ks : Kont) : Prop :=
  if b = want then opW P o (up σ d (.bool b)) h fun v h' => Kr (putS (up σ d (.bool b)) o.dst v) h' else Ks (putS (up σ d (.bool b)) o.dst undef) h
def runG (o : Oper) (σ : Nat → Value) (h : Heap) (Kr Ks : Kont) : Prop :=
  match o.guard with
  | none => opW P o σ h fun v h' => Kr (putS σ o.dst v) h'
  | some (j, want) => match (ops[j]?).bind (·.dst) with
    | none => False
    | some d => match σ d with
      | .bool t => cond t (runB P o d true want σ h Kr Ks) (runB P o d false want σ h Kr Ks)
      | _ => Ks (putS σ o.dst undef) h
/-- The text's order. -/
def X : List Oper → Kont → Kont
  | [], K, σ, h => K σ h
  | o :: os, K, σ, h => runG P ops o σ h (X os K) (X os K)

def wantS (o : Oper) (σ : Nat → Value) : Bool :=
  match o.guard with
  | none => true
  | some (j, want) => match (ops[j]?).bind (·.dst) with
    | some d => match σ d with
      | .bool t => t == want
      | _ => false
    | none => false
variable {P ops}
theorem wanted_eq {n : Nat} {a : Act} {σ : Nat → Value} (hf : Fr n a σ) (o : Oper) : Region.wanted o (yielded ops a.tmps) = wantS ops o σ := by
  unfold Region.wanted wantS
  cases o.guard with
  | none => rfl
  | some g =>
    obtain ⟨j, want⟩ := g
    simp only [yielded]
    cases hd : (ops[j]?).bind (·.dst) with
    | none => rfl
    | some d =>
      simp only [Option.bind_some]
      have := hf.at_ d
      rw [Array.getD_eq_getD_getElem?] at this
      cases e : a.tmps[d]? with
      | none => rw [e] at this; simp only [Option.getD_none] at this; rw [← this]; rfl
      | some v => rw [e] at this; simp only [Option.getD_some] at this; rw [← this]; cases v <;> rfl
theorem runG_cases {o : Oper} {σ : Nat → Value} {h : Heap} {Kr Ks : Kont} (hr : runG P ops o σ h Kr Ks) :
    (wantS ops o σ = true ∧ opW P o σ h fun v h' => Kr (putS σ o.dst v) h') ∨ (wantS ops o σ = false ∧ Ks (putS σ o.dst undef) h) := by
  unfold runG at hr
  unfold wantS
  split at hr
  · exact .inl ⟨rfl, hr⟩
  · rename_i j want hg
    split at hr
    · exact hr.elim
    · rename_i d hd
      simp only [hd]
      split at hr
      · rename_i t ht
        have hb : ∀ b, b = t → runB P o d b want σ h Kr Ks → ((t == want) = true ∧ opW P o σ h fun v h' => Kr (putS σ o.dst v) h') ∨ ((t == want) = false ∧ Ks (putS σ o.dst undef) h) := by
          intro b e hq
          subst e
          have hs : up σ d (.bool b) = σ := by rw [← ht]; exact up_self σ d
          unfold runB at hq
          rw [hs] at hq
          split at hq
          · rename_i e; subst e; exact .inl ⟨by simp, hq⟩
          · rename_i e; exact .inr ⟨by simpa using e, hq⟩
        cases t with
        | true => exact hb true rfl hr
        | false => exact hb false rfl hr
      · exact .inr ⟨rfl, hr⟩
theorem upon_done {o : Oper} {a : Act} {w : World} {K : Value → Heap → Prop} {next : Act → World → Prop} {Q : Exit → Act → World → Prop} {r : Result Next} (hd : Done P K w r)
    (hk : ∀ v w', Env w w' → K v w'.heap → next (a.put o.dst v) w') : o.upon P a next Q r := by
  cases r with
  | halt x w' => exact hd.elim
  | ok nx w' =>
    cases nx <;> simp only [Done] at hd <;> first | exact hd.elim | skip
    case value v => exact hk _ _ hd.1 hd.2
    case skip => exact hk _ _ hd.1 hd.2
    case enter f args =>
      refine Calls.mono (hd.2 w' rfl) ?_
      rintro e w'' ⟨hE, v, rfl, hK⟩
      exact hk _ _ (hd.1.trans hE) hK

def Agr (m : Nat → Prop) (σ σ' : Nat → Value) : Prop := ∀ t, ¬ m t → σ' t = σ t
theorem X_sound {n : Nat} {w₀ : World} {Q : Exit → Act → World → Prop} {K : Kont} : ∀ (os : List Oper) (σ : Nat → Value) (h : Heap) (a : Act) (w : World), X P ops os K σ h →
    Fr n a σ → w.heap = h → Env w₀ w → (∀ o ∈ os, ∀ d, o.dst = some d → d < n) →
    (∀ σ' a' w', Fr n a' σ' → Env w₀ w' → K σ' w'.heap → Agr (fun t => ∃ o ∈ os, o.dst = some t) σ σ' → Q .normal a' w') → wpList P ops Q os a w
  | [], σ, h, a, w, hx, hf, hw, hE, _, hQ => hQ σ a w hf hE (by rw [hw]; exact hx) (fun _ _ => rfl)
  | o :: os, σ, h, a, w, hx, hf, hw, hE, hd, hQ => by
    have hd1 : ∀ d, o.dst = some d → d < n := hd o (List.mem_cons_self ..)
    have step : ∀ v w', Env w w' → X P ops os K (putS σ o.dst v) w'.heap → wpList P ops Q os (a.put o.dst v) w' := fun v w' hE' hx' => by
      refine X_sound os _ _ _ _ hx' (hf.put o.dst hd1 v) rfl (hE.trans hE') (fun o' ho => hd o' (List.mem_cons_of_mem _ ho)) fun σ' a' w'' hf' hE'' hK hag => ?_
      refine hQ σ' a' w'' hf' hE'' hK fun t ht => ?_
      rw [hag t fun ⟨o', ho', e⟩ => ht ⟨o', List.mem_cons_of_mem _ ho', e⟩]
      exact putS_ne fun e => ht ⟨o, List.mem_cons_self .., e⟩
    unfold wpList
    rw [wanted_eq hf]
    rcases runG_cases hx with ⟨hg, hq⟩ | ⟨hg, hq⟩
    · rw [if_pos hg]
      refine .inl ?_
      unfold Oper.wp
      rw [hf.eval]
      exact upon_done (opW_done hq w hw) step
    · rw [if_neg (by simp [hg])]
      refine step undef w (Env.refl w) ?_
      rw [hw]; exact hq
end

/-! ## Regions that draw -/
section
variable (P : Program) (ops : Array Oper)
def bef (i k : Nat) : Bool := ((Region.before ops).getD k 0).testBit i
def rdy (L i : Nat) : Bool :=
  match ops[i]? with
  | none => false
  | some o => !Nat.testBit L i && o.after.toList.all fun e => !Region.binds .any e || Nat.testBit L e.on
def looks (k : Nat) : List Nat :=
  match ops[k]? with
  | none => []
  | some o => o.looksAt ops
def dstOf (k : Nat) : Option Nat := (ops[k]?).bind (·.dst)
def isD (k d : Nat) : Bool :=
  match dstOf ops k with
  | some e => Nat.beq e d
  | none => false
/-- A slot that is written once, and looked at behind that alone. -/
def ssa (i : Nat) : Bool :=
  match dstOf ops i with
  | none => false
  | some d => (List.range ops.size).all fun k => if Nat.beq k i then !(looks ops k).contains d else (!(looks ops k).contains d && !isD ops k d) || bef ops i k
def nw (i : Nat) : Bool :=
  match ops[i]? with
  | none => false
  | some o => nwK P o && ssa ops i
/-- What the order in which a region's operations may run leaves fixed. -/
def chk : Bool :=
  (List.range ops.size).all fun k =>
    (match ops[k]? with
      | none => false
      | some o => o.after.toList.all fun e => !Region.binds .any e || decide (e.on < k)) &&
    (match dstOf ops k with
      | none => true
      | some d => (List.range ops.size).all fun j => Nat.beq j k || (!(looks ops j).contains d && !isD ops j d) || bef ops k j || bef ops j k)
def nextNW (L : Nat) : Option Nat := (List.range ops.size).find? fun i => rdy ops L i && nw P ops i
def allI : List Nat → (Nat → Prop) → Prop
  | [], _ => True
  | [i], f => f i
  | i :: j :: is, f => f i ∧ allI (j :: is) f
def stabOp (r : Nat) (σ : Nat → Value) (h : Heap) : Prop :=
  match ops[r]? with
  | none => True
  | some o => match o.dst with
    | none => True
    | some d => match o.guard with
      | none => opW P o σ h fun v _ => v = σ d
      | some (j, want) => match (ops[j]?).bind (·.dst) with
        | none => True
        | some g => match σ g with
          | .bool t => if t = want then opW P o σ h fun v _ => v = σ d else True
          | _ => True
def stabs : List Nat → (Nat → Value) → Heap → Prop → Prop
  | [], _, _, p => p
  | r :: rs, σ, h, p => stabOp P ops r σ h ∧ stabs rs σ h p
def nsI (r : Nat) : Bool :=
  match ops[r]? with
  | none => false
  | some o => ns P o
def again (L i : Nat) : List Nat := (List.range ops.size).filter fun r => Nat.testBit L r && nw P ops r && nsI P ops r && !bef ops r i
def T : Nat → Nat → Kont → Kont
  | 0, _, _ => fun _ _ => False
  | f + 1, L, K => fun σ h =>
    match nextNW P ops L with
    | some i => match ops[i]? with
      | some o => runG P ops o σ h (T f (L ||| 2 ^ i) K) (T f (L ||| 2 ^ i) K)
      | none => False
    | none => match (List.range ops.size).filter (rdy ops L) with
      | [] => K σ h
      | is => allI is fun i => match ops[i]? with
        | some o => runG P ops o σ h (fun σ' h' => stabs P ops (again P ops L i) σ' h' (T f (L ||| 2 ^ i) K σ' h')) (T f (L ||| 2 ^ i) K)
        | none => False
end
end Go.Proofs.Ytegbnmaglkpkjaa
