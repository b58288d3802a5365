/-
  Layer 3 (frame), over plain lists: a payload's frame, what bytes tell, and what a turned byte does.
-/
import Derived.Test.YtnognoiaakiepaaC1
namespace Go.Proofs.Ytnognoiaakiepaa

def eForm : Int := 2
def eCheck : Int := 3
def eLong : Int := 4
def hiB (p : List UInt8) : UInt8 := UInt8.ofNat (p.length / 256)
def loB (p : List UInt8) : UInt8 := UInt8.ofNat p.length
def frameM (p : List UInt8) : List UInt8 := hiB p :: loB p :: (255 - hiB p) :: (255 - loB p) :: (p ++ le4 (crcOf p))
def takeM : List UInt8 → List UInt8 × Nat × Int
  | a :: b :: c :: d :: r =>
    if a.toNat + c.toNat = 255 ∧ b.toNat + d.toNat = 255 then
      if 4096 < a.toNat * 256 + b.toNat then ([], 0, eLong)
      else if r.length < a.toNat * 256 + b.toNat + 4 then ([], 0, eForm)
      else if le4 (crcOf (r.take (a.toNat * 256 + b.toNat))) = (r.drop (a.toNat * 256 + b.toNat)).take 4 then (r.take (a.toNat * 256 + b.toNat), a.toNat * 256 + b.toNat + 8, 0)
      else ([], 0, eCheck)
    else ([], 0, eCheck)
  | _ => ([], 0, eForm)
def wholeM (l : List UInt8) : List UInt8 × Int := if (takeM l).2.2 = 0 ∧ (takeM l).2.1 < l.length then ([], eForm) else ((takeM l).1, (takeM l).2.2)
def allM (l : List UInt8) : Nat → List (List UInt8) → Nat → List (List UInt8) × Nat × Int
  | 0, ps, at_ => (ps, at_, 0)
  | f + 1, ps, at_ =>
    if at_ < l.length then
      if (takeM (l.drop at_)).2.2 ≠ 0 then (ps, at_, (takeM (l.drop at_)).2.2) else allM l f (ps ++ [(takeM (l.drop at_)).1]) (at_ + (takeM (l.drop at_)).2.1)
    else (ps, at_, 0)

theorem takeM_cons (a b c d : UInt8) (r : List UInt8) : takeM (a :: b :: c :: d :: r) =
    if a.toNat + c.toNat = 255 ∧ b.toNat + d.toNat = 255 then
      if 4096 < a.toNat * 256 + b.toNat then ([], 0, eLong)
      else if r.length < a.toNat * 256 + b.toNat + 4 then ([], 0, eForm)
      else if le4 (crcOf (r.take (a.toNat * 256 + b.toNat))) = (r.drop (a.toNat * 256 + b.toNat)).take 4 then (r.take (a.toNat * 256 + b.toNat), a.toNat * 256 + b.toNat + 8, 0)
      else ([], 0, eCheck)
    else ([], 0, eCheck) := rfl
theorem takeM_err {l : List UInt8} (h : (takeM l).2.2 ≠ 0) : (takeM l).1 = [] ∧ (takeM l).2.1 = 0 := by
  revert h
  unfold takeM
  split
  · split
    · split
      · intro _; exact ⟨rfl, rfl⟩
      · split
        · intro _; exact ⟨rfl, rfl⟩
        · split
          · intro h; exact absurd rfl h
          · intro _; exact ⟨rfl, rfl⟩
    · intro _; exact ⟨rfl, rfl⟩
  · intro _; exact ⟨rfl, rfl⟩
theorem takeM_ok {l : List UInt8} (h : (takeM l).2.2 = 0) : 8 ≤ (takeM l).2.1 ∧ (takeM l).2.1 ≤ l.length ∧ (takeM l).1.length + 8 = (takeM l).2.1 ∧ (takeM l).1.length ≤ 4096 := by
  revert h
  unfold takeM
  split
  · split
    · split
      · intro h; exact absurd h (by decide)
      · split
        · intro h; exact absurd h (by decide)
        · split
          · intro _
            simp only [List.length_cons, List.length_take]
            omega
          · intro h; exact absurd h (by decide)
    · intro h; exact absurd h (by decide)
  · intro h; exact absurd h (by decide)
theorem takeM_short' {l : List UInt8} (h : l.length < 4) : takeM l = ([], 0, eForm) := by
  match l, h with
  | [], _ => rfl
  | [_], _ => rfl
  | [_, _], _ => rfl
  | [_, _, _], _ => rfl
theorem sub255 (x : UInt8) : (255 - x).toNat = 255 - x.toNat := by
  have hx := x.toNat_lt
  rw [UInt8.toNat_sub]
  have : (255 : UInt8).toNat = 255 := rfl
  omega
theorem hi_nat {p : List UInt8} (h : p.length < 65536) : (hiB p).toNat = p.length / 256 := by simp [hiB]; omega
theorem lo_nat (p : List UInt8) : (loB p).toNat = p.length % 256 := by simp [loB]
theorem le4_length (n : Nat) : (le4 n).length = 4 := rfl
/-- A frame's four first bytes, then anything: what is told is told by what stands behind. -/
theorem takeM_head (p : List UInt8) (r : List UInt8) (h : p.length ≤ 4096) : takeM (hiB p :: loB p :: (255 - hiB p) :: (255 - loB p) :: r) =
    if r.length < p.length + 4 then ([], 0, eForm)
    else if le4 (crcOf (r.take p.length)) = (r.drop p.length).take 4 then (r.take p.length, p.length + 8, 0) else ([], 0, eCheck) := by
  have h1 := hi_nat (p := p) (by omega)
  have h2 := lo_nat p
  have e : (hiB p).toNat * 256 + (loB p).toNat = p.length := by omega
  rw [takeM_cons, sub255, sub255, e]
  rw [if_pos (by omega), if_neg (by omega)]
theorem frameM_length (p : List UInt8) : (frameM p).length = p.length + 8 := by simp [frameM, le4_length]
theorem takeM_frame (p r : List UInt8) (h : p.length ≤ 4096) : takeM (frameM p ++ r) = (p, p.length + 8, 0) := by
  unfold frameM
  simp only [List.cons_append]
  rw [takeM_head p _ h, if_neg (by simp [le4_length])]
  have e1 : (p ++ le4 (crcOf p) ++ r).take p.length = p := by rw [List.append_assoc, List.take_left]
  have e2 : ((p ++ le4 (crcOf p) ++ r).drop p.length).take 4 = le4 (crcOf p) := by
    rw [List.append_assoc, List.drop_left]
    have : (le4 (crcOf p)).length = 4 := rfl
    rw [← this, List.take_left]
  rw [e1, e2, if_pos rfl]
/-- A part of a frame. -/
theorem takeM_part (p : List UInt8) (i : Nat) (h : p.length ≤ 4096) (hi : i < p.length + 8) : takeM ((frameM p).take i) = ([], 0, eForm) := by
  unfold frameM
  rcases i with _ | _ | _ | _ | i
  · rfl
  · rfl
  · rfl
  · rfl
  · simp only [List.take_succ_cons]
    rw [takeM_head p _ h, if_pos (by simp [le4_length]; omega)]
/-- A frame of which one byte is another one. -/
theorem takeM_turn (p r : List UInt8) (i : Nat) (v : UInt8) (h : p.length ≤ 4096) (hi : i < (frameM p).length) (hv : (frameM p)[i]? ≠ some v) : (takeM ((frameM p).set i v ++ r)).2.2 ≠ 0 := by
  have h1 := hi_nat (p := p) (by omega)
  have h2 := lo_nat p
  have ne : ∀ {x y : UInt8}, some x ≠ some y → x.toNat ≠ y.toNat := fun hxy e => hxy (congrArg some (UInt8.toNat_inj.1 e))
  have s1 := sub255 (hiB p)
  have s2 := sub255 (loB p)
  have l1 := (hiB p).toNat_lt
  have l2 := (loB p).toNat_lt
  rw [frameM_length] at hi
  unfold frameM at hv ⊢
  rcases i with _ | _ | _ | _ | i
  · simp only [List.getElem?_cons_zero] at hv
    simp only [List.set_cons_zero, List.cons_append]
    rw [takeM_cons, if_neg (by have := ne hv; omega)]; decide
  · simp only [List.getElem?_cons_succ, List.getElem?_cons_zero] at hv
    simp only [List.set_cons_succ, List.set_cons_zero, List.cons_append]
    rw [takeM_cons, if_neg (by have := ne hv; omega)]; decide
  · simp only [List.getElem?_cons_succ, List.getElem?_cons_zero] at hv
    simp only [List.set_cons_succ, List.set_cons_zero, List.cons_append]
    rw [takeM_cons, if_neg (by have := ne hv; omega)]; decide
  · simp only [List.getElem?_cons_succ, List.getElem?_cons_zero] at hv
    simp only [List.set_cons_succ, List.set_cons_zero, List.cons_append]
    rw [takeM_cons, if_neg (by have := ne hv; omega)]; decide
  · simp only [List.getElem?_cons_succ] at hv
    simp only [List.set_cons_succ, List.cons_append]
    rw [takeM_head p _ h, if_neg (by simp [le4_length])]
    by_cases hip : i < p.length
    · rw [List.getElem?_append_left hip, List.getElem?_eq_getElem hip] at hv
      rw [List.set_append_left _ _ hip]
      have hl : (p.set i v).length = p.length := List.length_set
      have e1 : (p.set i v ++ le4 (crcOf p) ++ r).take p.length = p.set i v := by rw [List.append_assoc, ← hl, List.take_left]
      have e2 : ((p.set i v ++ le4 (crcOf p) ++ r).drop p.length).take 4 = le4 (crcOf p) := by
        rw [List.append_assoc, ← hl, List.drop_left]
        have : (le4 (crcOf p)).length = 4 := rfl
        rw [← this, List.take_left]
      rw [e1, e2, if_neg]
      · decide
      · intro e
        have e := le4_inj (crcOf_lt _) (crcOf_lt _) e
        have h3 : p = p.take i ++ p[i] :: p.drop (i + 1) := by rw [← List.drop_eq_getElem_cons hip, List.take_append_drop]
        have h4 : p.set i v = p.take i ++ v :: p.drop (i + 1) := by rw [List.set_eq_take_append_cons_drop, if_pos hip]
        rw [h4] at e
        conv at e => rhs; rw [h3]
        exact hv (congrArg some (crcOf_turn _ _ _ _ e).symm)
    · have hj : i - p.length < (le4 (crcOf p)).length := by rw [le4_length]; omega
      rw [List.getElem?_append_right (by omega)] at hv
      rw [List.set_append_right _ _ (by omega)]
      have e1 : (p ++ (le4 (crcOf p)).set (i - p.length) v ++ r).take p.length = p := by rw [List.append_assoc, List.take_left]
      have e2 : ((p ++ (le4 (crcOf p)).set (i - p.length) v ++ r).drop p.length).take 4 = (le4 (crcOf p)).set (i - p.length) v := by
        rw [List.append_assoc, List.drop_left]
        have : ((le4 (crcOf p)).set (i - p.length) v).length = 4 := by rw [List.length_set]; rfl
        rw [← this, List.take_left]
      rw [e1, e2, if_neg]
      · decide
      · intro e
        have e3 := congrArg (fun x => x[i - p.length]?) e
        simp only [List.getElem?_set_self hj] at e3
        exact hv e3
end Go.Proofs.Ytnognoiaakiepaa
