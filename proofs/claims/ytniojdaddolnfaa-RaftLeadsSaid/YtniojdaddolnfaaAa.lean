/-
  Layer 8 (raft): a node in plain Lean.
-/
import Derived.Test.YtniojdaddolnfaaRh
namespace Go.Proofs.Ytniojdaddolnfaa
open Go

structure RE where
  term : Int
  data : ByteArray
structure RM where
  kind : Int
  from_ : Int
  to : Int
  term : Int
  index : Int
  logTerm : Int
  commit : Int
  yes : Bool
  ents : List RE
structure RN where
  id : Int
  n : Int
  elect : Int
  beat : Int
  term : Int
  vote : Int
  role : Int
  leader : Int
  since : Int
  quiet : Int
  commit : Int
  votes : Nat
  heard : Nat
  next : Nat → Int
  matc : Nat → Int
  log : List RE
  out : List RM
  hard : Bool
  from_ : Int
def popT : Nat → Nat → Nat
  | 0, _ => 0
  | k + 1, x => x % 2 + popT k (x / 2)
def lastT (es : List RE) : Int := (es.getLast?.map (·.term)).getD 0
def termAt (es : List RE) (i : Int) : Int × Bool :=
  if i < 0 ∨ i > es.length then (0, false) else if i = 0 then (0, true) else ((es[i.toNat - 1]?.map (·.term)).getD 0, true)
def fromL (es : List RE) (index most : Int) : List RE := (es.drop ((if 1 > index then 1 else index).toNat - 1)).take most.toNat
def youngB (es : List RE) (index term : Int) : Prop := term > lastT es ∨ (term = lastT es ∧ index ≥ es.length)
instance (es : List RE) (i t : Int) : Decidable (youngB es i t) := by unfold youngB; infer_instance
def rSend (X : RN) (to : Int) (m : RM) : RN := { X with out := X.out ++ [{ m with from_ := X.id, to := to }] }
def others (X : RN) (k : Nat) : List Nat := (List.range k).filter fun (t : Nat) => decide ((t : Int) ≠ X.id)
def rAll (X : RN) (m : RM) : RN := { X with out := X.out ++ (others X X.n.toNat).map fun t => { m with from_ := X.id, to := (t : Int) } }
def toMsg (X : RN) (t : Nat) : RM := ⟨5, X.id, t, X.term, X.next t - 1, (termAt X.log (X.next t - 1)).1, X.commit, false, fromL X.log (X.next t - 1 + 1) 8⟩
def rTo (X : RN) (t : Nat) : RN := { X with out := X.out ++ [toMsg X t] }
def rToAll (X : RN) : RN := { X with since := 0, out := X.out ++ (others X X.n.toNat).map (toMsg X) }
def rDirty (X : RN) (i : Int) : RN := { X with from_ := if X.from_ = 0 ∨ i < X.from_ then i else X.from_ }
def rFollow (X : RN) (t l : Int) : RN := if t > X.term then { X with term := t, vote := -1, hard := true, role := 0, leader := l } else { X with role := 0, leader := l }
def cntG (X : RN) (i : Int) : Nat := ((List.range X.n.toNat).filter fun (t : Nat) => decide ((t : Int) = X.id ∨ X.matc t ≥ i)).length
def agreeAt (X : RN) : Nat → Option Nat
  | 0 => none
  | i + 1 => if ((i + 1 : Nat) : Int) ≤ X.commit then none else if (termAt X.log ((i + 1 : Nat) : Int)).1 ≠ X.term then none else if 2 * (cntG X ((i + 1 : Nat) : Int) : Int) > X.n then some (i + 1) else agreeAt X i
def rAgree (X : RN) : RN := match agreeAt X X.log.length with
  | none => X
  | some c => rToAll { X with commit := (c : Int) }
def rAdd (X : RN) (data : ByteArray) : RN × Int :=
  if X.term < lastT X.log then (X, 5) else if X.log.length ≥ 1024 then (X, 7)
  else (rAgree (rToAll (rDirty { X with log := X.log ++ [⟨X.term, data⟩] } ((X.log.length : Int) + 1))), 0)
def rLead0 (X : RN) : RN := { X with since := 0, quiet := 0, role := 3, leader := X.id, heard := 0, next := fun t => if (t : Int) < X.n then (X.log.length : Int) + 1 else X.next t, matc := fun t => if (t : Int) < X.n then 0 else X.matc t }
def rLeads (X : RN) : RN := if (rAdd (rLead0 X) ⟨#[]⟩).2 ≠ 0 then rFollow (rAdd (rLead0 X) ⟨#[]⟩).1 (rAdd (rLead0 X) ⟨#[]⟩).1.term (-1) else (rAdd (rLead0 X) ⟨#[]⟩).1
def mostB (X : RN) (v : Nat) : Prop := 2 * (popT 7 v : Int) > X.n
instance (X : RN) (v : Nat) : Decidable (mostB X v) := inferInstanceAs (Decidable (2 * (popT 7 v : Int) > X.n))
def rStand0 (X : RN) : RN := { X with since := 0, role := 2, votes := 2 ^ X.id.toNat, term := X.term + 1, vote := X.id, hard := true }
def rStands (X : RN) : RN := if mostB X (2 ^ X.id.toNat) then rLeads (rStand0 X) else rAll (rStand0 X) ⟨3, 0, 0, X.term + 1, X.log.length, lastT X.log, 0, false, []⟩
def rAsk0 (X : RN) : RN := { X with since := 0, role := 1, leader := -1, votes := 2 ^ X.id.toNat }
def rAsks (X : RN) : RN := if mostB X (2 ^ X.id.toNat) then rStands (rAsk0 X) else rAll (rAsk0 X) ⟨1, 0, 0, X.term + 1, X.log.length, lastT X.log, 0, false, []⟩
def rBeat (X : RN) : RN := if X.since ≥ X.beat then rToAll X else X
def rLead (X : RN) : RN :=
  if X.quiet + 1 ≥ X.elect then
    if ¬ mostB X (X.heard ||| 2 ^ X.id.toNat) then { rFollow { X with quiet := 0, heard := 0 } X.term (-1) with since := 0 } else rBeat { X with quiet := 0, heard := 0 }
  else rBeat { X with quiet := X.quiet + 1 }
def rTick (X : RN) (draw : Int) : RN :=
  if X.role = 3 then rLead { X with since := X.since + 1 }
  else if X.term < 1099511627776 ∧ X.since + 1 ≥ X.elect + (if 0 > draw then 0 else draw) % X.elect then rAsks { X with since := X.since + 1 } else { X with since := X.since + 1 }
def rPropose (X : RN) (data : ByteArray) : RN × Int × Int :=
  if X.role ≠ 3 then (X, 0, 13) else if data.size > 512 then (X, 0, 4)
  else if (rAdd X data).2 ≠ 0 then ((rAdd X data).1, 0, (rAdd X data).2) else ((rAdd X data).1, ((rAdd X data).1.log.length : Int), 0)
def oddE (t : Int) (e : RE) : Prop := e.term > t ∨ e.term < 1 ∨ e.data.size > 512
instance (t : Int) (e : RE) : Decidable (oddE t e) := by unfold oddE; infer_instance
def countsB (X : RN) (m : RM) : Prop := m.to = X.id ∧ m.from_ ≠ X.id ∧ 0 ≤ m.from_ ∧ m.from_ < X.n ∧ 1 ≤ m.kind ∧ m.kind ≤ 6 ∧ 0 ≤ m.term ∧ m.term ≤ 1099511627776 ∧ m.ents.length ≤ 8 ∧ ∀ e ∈ m.ents, ¬ oddE m.term e
instance (X : RN) (m : RM) : Decidable (countsB X m) := by unfold countsB; infer_instance
def rTold (X : RN) (to : Int) (yes : Bool) (index : Int) : RN := rSend X to ⟨6, 0, 0, X.term, index, 0, 0, yes, []⟩
def preB (X : RN) (m : RM) : Prop := m.term > X.term ∧ youngB X.log m.index m.logTerm ∧ X.role ≠ 3 ∧ (X.leader = -1 ∨ X.since ≥ X.elect)
instance (X : RN) (m : RM) : Decidable (preB X m) := by unfold preB; infer_instance
def rAskPre (X : RN) (m : RM) : RN := rSend X m.from_ ⟨2, 0, 0, if preB X m then m.term else X.term, 0, 0, 0, decide (preB X m), []⟩
def rTellPre (X : RN) (m : RM) : RN :=
  if m.yes = false ∧ m.term > X.term then rFollow X m.term (-1)
  else if m.yes = true ∧ m.term = X.term + 1 ∧ X.role = 1 then
    if mostB X (X.votes ||| 2 ^ m.from_.toNat) then rStands { X with votes := X.votes ||| 2 ^ m.from_.toNat } else { X with votes := X.votes ||| 2 ^ m.from_.toNat }
  else X
def voteB (X : RN) (m : RM) : Prop := (X.vote = -1 ∨ X.vote = m.from_) ∧ X.role ≠ 3 ∧ youngB X.log m.index m.logTerm
instance (X : RN) (m : RM) : Decidable (voteB X m) := by unfold voteB; infer_instance
def rAskVote (X : RN) (m : RM) : RN :=
  rSend (if voteB X m then { X with hard := X.hard || (X.vote != m.from_), vote := m.from_, since := 0 } else X) m.from_ ⟨4, 0, 0, X.term, 0, 0, 0, decide (voteB X m), []⟩
def rTellVote (X : RN) (m : RM) : RN :=
  if m.yes = false ∨ X.role ≠ 2 then X
  else if mostB X (X.votes ||| 2 ^ m.from_.toNat) then rLeads { X with votes := X.votes ||| 2 ^ m.from_.toNat } else { X with votes := X.votes ||| 2 ^ m.from_.toNat }
def upd (f : Nat → Int) (k : Nat) (v : Int) : Nat → Int := fun t => if t = k then v else f t
def rHear0 (X : RN) (k : Nat) : RN := { X with heard := X.heard ||| 2 ^ k }
def mx (a b : Int) : Int := if b > a then b else a
def rHear1 (X : RN) (k : Nat) (i : Int) : RN := { rHear0 X k with matc := upd X.matc k (mx (X.matc k) i), next := upd X.next k (mx (X.matc k) i + 1) }
def mn (a b : Int) : Int := if b < a then b else a
def rHear2 (X : RN) (k : Nat) (i : Int) : RN := { rHear0 X k with next := upd X.next k (mx (mn (mn (mx i 0) X.log.length + 1) (X.next k - 1)) (X.matc k + 1)) }
def rHears (X : RN) (m : RM) : RN :=
  if X.role ≠ 3 then X
  else if m.yes = true ∧ 0 ≤ m.index ∧ m.index ≤ X.log.length then
    if (rAgree (rHear1 X m.from_.toNat m.index)).matc m.from_.toNat < X.log.length then rTo (rAgree (rHear1 X m.from_.toNat m.index)) m.from_.toNat else rAgree (rHear1 X m.from_.toNat m.index)
  else if m.yes = false then rTo (rHear2 X m.from_.toNat m.index) m.from_.toNat else rHear0 X m.from_.toNat
def rNewer (X : RN) (m : RM) : RN := if m.term > X.term then rFollow X m.term (-1) else X
/-- A message that brings no entries. -/
def rStep (X : RN) (m : RM) : RN :=
  if ¬ countsB X m then X
  else if m.kind = 1 then rAskPre X m else if m.kind = 2 then rTellPre X m
  else if m.term < (rNewer X m).term then (if m.kind = 5 then rTold (rNewer X m) m.from_ false 0 else rNewer X m)
  else if m.kind = 3 then rAskVote (rNewer X m) m else if m.kind = 4 then rTellVote (rNewer X m) m else rHears (rNewer X m) m
def rNew (id n elect beat term vote : Int) (es : List RE) : RN := ⟨id, n, elect, beat, term, vote, 0, -1, 0, 0, 0, 0, 0, fun _ => 0, fun _ => 0, es, [], false, 0⟩
/-- A state that may be. -/
def rightR (term vote : Int) (es : List RE) : Prop := (∀ e ∈ es, 1 ≤ e.term ∧ e.term ≤ term ∧ e.data.size ≤ 512) ∧ (es.Pairwise fun a b => a.term ≤ b.term) ∧ 0 ≤ term ∧ term ≤ 1099511627776 ∧ -1 ≤ vote ∧ vote < 7 ∧ es.length ≤ 1024
/-! ## What always holds -/
structure ROk (k : Nat) (X : RN) : Prop where
  n1 : 1 ≤ X.n
  n7 : X.n ≤ 7
  id0 : 0 ≤ X.id
  idn : X.id < X.n
  el1 : 1 ≤ X.elect
  el2 : X.elect ≤ 1000
  be1 : 1 ≤ X.beat
  be2 : X.beat ≤ X.elect
  t0 : 0 ≤ X.term
  t1 : X.term ≤ 1099511627776
  s0 : 0 ≤ X.since
  s1 : X.since ≤ k
  q0 : 0 ≤ X.quiet
  q1 : X.quiet ≤ k
  c0 : 0 ≤ X.commit
  c1 : X.commit ≤ X.log.length
  v : X.votes < 128
  h : X.heard < 128
  nx : ∀ t, 0 ≤ X.next t ∧ X.next t ≤ 1025
  mt : ∀ t, 0 ≤ X.matc t ∧ X.matc t ≤ 1024
  l : X.log.length ≤ 1024
theorem pow7 {n : Int} (h0 : 0 ≤ n) (h7 : n < 7) : 2 ^ n.toNat < 128 := Nat.pow_lt_pow_right (a := 2) (m := n.toNat) (n := 7) (by decide) (by omega)
theorem or7 {a : Nat} {n : Int} (ha : a < 128) (h0 : 0 ≤ n) (h7 : n < 7) : a ||| 2 ^ n.toNat < 128 := Nat.or_lt_two_pow (n := 7) ha (pow7 h0 h7)
end Go.Proofs.Ytniojdaddolnfaa
