/-
  Layer 6 (hard), over plain lists: a save's records, what records tell; what a crash leaves of them.
-/
import Derived.Test.YtnognoiaakiepaaV1
import Derived.Test.YtnognoiaakiepaaWa
namespace Go.Proofs.Ytnognoiaakiepaa
open Go

structure Ent where
  t : Int
  d : List UInt8
structure Stt where
  term : Int
  vote : Int
  es : List Ent
structure Sav where
  hard : Bool
  term : Int
  vote : Int
  frm : Int
  es : List Ent
def entR (frm : Int) (k : Nat) (e : Ent) : WRec := ⟨2, be8 (IntKind.i64.wrap (frm + (k : Int))) ++ be8 e.t ++ txt e.d⟩
def savR (s : Sav) : List WRec := (if s.hard then [⟨1, be8 s.term ++ be8 s.vote⟩] else []) ++ s.es.mapIdx (entR s.frm)
def rightE (term : Int) : Int → List Ent → Bool
  | _, [] => true
  | last, e :: es => if e.t < last ∨ term < e.t ∨ 512 < (e.d.length : Int) then false else rightE term e.t es
def rightM (s : Stt) : Bool := if s.term < 0 ∨ 1099511627776 < s.term ∨ s.vote < -1 ∨ 6 < s.vote ∨ 1024 < s.es.length then false else rightE s.term 1 s.es
def vT (d : List UInt8) : Bool × List UInt8 × Int := mInt false d 0 1099511627776
def vV (d : List UInt8) : Bool × List UInt8 × Int := mInt (vT d).1 (vT d).2.1 (-1) 6
def eI (n : Nat) (d : List UInt8) : Bool × List UInt8 × Int := mInt false d 1 ((n + 1 : Nat) : Int)
def eT (n : Nat) (d : List UInt8) : Bool × List UInt8 × Int := mInt (eI n d).1 (eI n d).2.1 1 1099511627776
def eD (n : Nat) (d : List UInt8) : Bool × List UInt8 × List UInt8 := mText (eT n d).1 (eT n d).2.1 512
def stepM (s : Stt) (r : WRec) : Option Stt :=
  if r.kind = 1 then (if (vV r.data).1 = false ∧ (vV r.data).2.1 = [] then some ⟨(vT r.data).2.2, (vV r.data).2.2, s.es⟩ else none)
  else if r.kind = 2 then
    (if (eD s.es.length r.data).1 = false ∧ (eD s.es.length r.data).2.1 = [] then
      some ⟨s.term, s.vote, s.es.take ((eI s.es.length r.data).2.2 - 1).toNat ++ [⟨(eT s.es.length r.data).2.2, (eD s.es.length r.data).2.2⟩]⟩ else none)
  else none
def playF : Stt → List WRec → Option Stt
  | s, [] => some s
  | s, r :: rs => match stepM s r with
    | none => none
    | some s' => playF s' rs
def st0 : Stt := ⟨0, -1, []⟩
def playM (l : List WRec) : Option Stt := match playF st0 l with
  | none => none
  | some s => if rightM s = true then some s else none

theorem mInt_ok {bad : Bool} {l : List UInt8} {lo hi : Int} (h : (mInt bad l lo hi).1 = false) : bad = false ∧ lo ≤ (mInt bad l lo hi).2.2 ∧ (mInt bad l lo hi).2.2 ≤ hi := by
  unfold mInt at h ⊢
  split at h
  · cases h
  · rename_i h1
    rw [if_neg h1]
    split at h
    · rename_i h2
      rw [if_pos h2]
      exact ⟨by cases bad <;> simp at h1 ⊢, h2⟩
    · cases h
theorem mText_ok {bad : Bool} {l : List UInt8} {m : Int} (h : (mText bad l m).1 = false) : bad = false ∧ ((mText bad l m).2.2.length : Int) ≤ m := by
  unfold mText at h ⊢
  split at h
  · cases h
  · rename_i h1
    rw [if_neg h1]
    split at h
    · cases h
    · rename_i h2
      rw [if_neg h2]
      split at h
      · cases h
      · rename_i h3
        rw [if_neg h3]
        refine ⟨by cases bad <;> simp at h1 ⊢, ?_⟩
        show (((l.drop 2).take (valBE (l.take 2))).length : Int) ≤ m
        rw [List.length_take]
        omega
theorem eD_ok {n : Nat} {d : List UInt8} (h : (eD n d).1 = false) : 1 ≤ (eI n d).2.2 ∧ (eI n d).2.2 ≤ ((n + 1 : Nat) : Int) := by
  obtain ⟨h1, _⟩ := mText_ok h
  obtain ⟨h2, _⟩ := mInt_ok h1
  exact (mInt_ok h2).2
theorem stepM_len {s s' : Stt} {r : WRec} (h : stepM s r = some s') : s'.es.length ≤ s.es.length + 1 := by
  unfold stepM at h
  split at h
  · split at h
    · injection h with h; subst h; exact Nat.le_succ _
    · cases h
  · split at h
    · split at h
      · injection h with h; subst h
        simp only [List.length_append, List.length_take, List.length_cons, List.length_nil]
        omega
      · cases h
    · cases h
theorem playF_snoc (s : Stt) : ∀ (a b : List WRec), playF s (a ++ b) = match playF s a with | none => none | some s' => playF s' b
  | [], b => rfl
  | r :: a, b => by
    show (match stepM s r with | none => none | some s' => playF s' (a ++ b)) = _
    rw [playF]
    cases stepM s r with
    | none => rfl
    | some s' => exact playF_snoc s' a b
theorem recsM_le' (m : Nat) : ∀ (l : List WRec), (∀ r ∈ l, r.data.length ≤ m) → (recsM l).length ≤ l.length * (m + 9)
  | [], _ => Nat.zero_le _
  | r :: l, h => by
    have h1 := recsM_le' m l fun x hx => h x (List.mem_cons_of_mem _ hx)
    have h2 := h r (List.mem_cons_self ..)
    have h3 := recM_length r
    rw [recsM_cons, List.length_append, List.length_cons, Nat.succ_mul]
    omega
theorem txt_length (l : List UInt8) : (txt l).length = min l.length 65535 + 2 := by
  unfold txt be2
  simp only [List.length_append, List.length_cons, List.length_nil, List.length_take]
  omega
theorem savR_ok {s : Sav} (h : ∀ e ∈ s.es, e.d.length ≤ 600) : ∀ r ∈ savR s, r.ok ∧ r.data.length ≤ 618 := by
  intro r hr
  rcases List.mem_append.1 hr with hr | hr
  · split at hr
    · rw [List.mem_singleton.1 hr]
      have e : (be8 s.term ++ be8 s.vote).length = 16 := by simp [be8_length]
      exact ⟨⟨(by decide : (1 : UInt8) ≠ 0), by show (be8 s.term ++ be8 s.vote).length < 4096; omega⟩, by show (be8 s.term ++ be8 s.vote).length ≤ 618; omega⟩
    · cases hr
  · rw [List.mem_mapIdx] at hr
    obtain ⟨k, hk, rfl⟩ := hr
    have h1 := h _ (List.getElem_mem hk)
    have h2 := txt_length s.es[k].d
    have e : (entR s.frm k s.es[k]).data.length = 16 + (txt s.es[k].d).length := by simp [entR, be8_length]; omega
    exact ⟨⟨(by decide : (2 : UInt8) ≠ 0), by omega⟩, by omega⟩
theorem savR_len (s : Sav) : (savR s).length ≤ s.es.length + 1 := by
  unfold savR
  rw [List.length_append, List.length_mapIdx]
  split <;> simp <;> omega
/-- What is read of records behind a crash. -/
theorem crash_wal {r1 r2 : List WRec} (ok1 : ∀ r ∈ r1, r.ok) (ok2 : ∀ r ∈ r2, r.ok) (keep at_ : Int) (y : UInt8) :
    ∃ j m e, j ≤ r2.length ∧ walR (crashL (recsM (r1 ++ r2)) (recsM r1).length keep at_ y) = (r1 ++ r2.take j, m, e) ∧ (recsM r1).length ≤ m ∧ (crashL (recsM (r1 ++ r2)) (recsM r1).length keep at_ y).length ≤ (recsM (r1 ++ r2)).length := by
  have hD : recsM (r1 ++ r2) = recsM r1 ++ recsM r2 := recsM_app ..
  have hcr : ∃ kp i c, crashL (recsM (r1 ++ r2)) (recsM r1).length keep at_ y = recsM r1 ++ flp ((recsM r2).take kp) i c := by
    unfold crashL
    rw [hD, List.length_append, Nat.add_sub_cancel_left]
    generalize min keep.toNat (recsM r2).length = kp
    have e : (recsM r1 ++ recsM r2).take ((recsM r1).length + kp) = recsM r1 ++ (recsM r2).take kp := List.take_length_add_append ..
    rw [e]
    split
    · exact ⟨kp, at_.toNat, y, by rw [flp_app2 (by omega), Nat.add_sub_cancel_left]⟩
    · exact ⟨kp, (recsM r2).length, y, by rw [flp_out (l := (recsM r2).take kp) (by rw [List.length_take]; omega)]⟩
  obtain ⟨kp, i, c, hcr⟩ := hcr
  rw [hcr]
  obtain ⟨f', hf', hw1⟩ := walM_recs [] r1 (flp ((recsM r2).take kp) i c) ((recsM r1 ++ flp ((recsM r2).take kp) i c).length + 1) [] 0 ok1 rfl (by simp)
  simp only [List.nil_append, Nat.zero_add] at hf' hw1
  obtain ⟨j, ee, hj, hw2, _⟩ := walM_crash (recsM r1) r2 kp i c f' r1 ok2 (by omega)
  refine ⟨j, _, ee, hj, hw1.trans hw2, Nat.le_add_right _ _, ?_⟩
  rw [hD, List.length_append, List.length_append, flp_length, List.length_take]
  omega
end Go.Proofs.Ytnognoiaakiepaa
