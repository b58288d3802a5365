/-
  Layer 8 (raft): who leads commits what a majority has (plain).
-/
import Derived.Test.YtniojdaddolnfaaAi
namespace Go.Proofs.Ytniojdaddolnfaa
open Go

/-- The last index of (base, base + d] that passes, or 0. -/
def wantR (q : Nat → Bool) (base : Nat) : Nat → Nat
  | 0 => 0
  | d + 1 => if q (base + d + 1) = true then base + d + 1 else wantR q base d
theorem wantR_le (q : Nat → Bool) (base : Nat) : ∀ d, wantR q base d ≤ base + d
  | 0 => Nat.zero_le _
  | d + 1 => by
    have := wantR_le q base d
    unfold wantR
    split <;> omega
theorem wantR_mono {q q' : Nat → Bool} {base : Nat} (hq : ∀ i, q i = true → q' i = true) : ∀ d, wantR q base d ≤ wantR q' base d
  | 0 => Nat.le_refl _
  | d + 1 => by
    have h1 := wantR_mono hq (base := base) d
    have h2 := wantR_le q base d
    unfold wantR
    split
    · rename_i h
      rw [if_pos (hq _ h)]; exact Nat.le_refl _
    · split <;> omega
theorem wantR_up (q : Nat → Bool) (base d : Nat) : wantR q base d ≤ wantR q base (d + 1) := by
  have h2 := wantR_le q base d
  show _ ≤ if q (base + d + 1) = true then base + d + 1 else wantR q base d
  split <;> omega
def qG (X : RN) (i : Nat) : Bool := decide (2 * (cntG X (i : Int) : Int) > X.n)
theorem termAt_get {es : List RE} {i : Nat} (h : i < es.length) : (termAt es ((i + 1 : Nat) : Int)).1 = es[i].term := by
  unfold termAt
  rw [if_neg (by omega), if_neg (by omega)]
  show (es[((i + 1 : Nat) : Int).toNat - 1]?.map (·.term)).getD 0 = _
  rw [show ((i + 1 : Nat) : Int).toNat - 1 = i by omega, List.getElem?_eq_getElem h]; rfl
theorem agree_want {X : RN} {es ps : List RE} {T : Int} (hlog : X.log = es ++ ps) (hT : X.term = T + 1) (he : ∀ e ∈ es, e.term ≤ T) (hp : ∀ e ∈ ps, e.term = T + 1) (hc : 0 ≤ X.commit) :
    ∀ d, d ≤ ps.length → agreeAt X (es.length + d) = if (wantR (qG X) es.length d : Int) > X.commit then some (wantR (qG X) es.length d) else none
  | 0, _ => by
    rw [show wantR (qG X) es.length 0 = 0 from rfl, if_neg (show ¬ (((0 : Nat) : Int) > X.commit) by omega)]
    rw [Nat.add_zero]
    cases hb : es.length with
    | zero => rfl
    | succ b =>
      rw [agree_succ]
      split
      · rfl
      rw [if_pos]
      have h1 : b < es.length := by omega
      have h2 : b < X.log.length := by rw [hlog, List.length_append]; omega
      rw [termAt_get h2, hT]
      have e : X.log[b] = es[b] := by simp only [hlog]; rw [List.getElem_append_left h1]
      have := he _ (List.getElem_mem h1)
      rw [e]; omega
  | d + 1, hd => by
    have ih := agree_want hlog hT he hp hc d (by omega)
    have hle := wantR_le (qG X) es.length (d + 1)
    rw [show es.length + (d + 1) = es.length + d + 1 from rfl, agree_succ]
    split
    · rw [if_neg (by omega)]
    · rename_i hcm
      have h2 : es.length + d < X.log.length := by rw [hlog, List.length_append]; omega
      have e : X.log[es.length + d] = ps[d] := by
        simp only [hlog]
        rw [List.getElem_append_right (by omega)]
        simp only [Nat.add_sub_cancel_left]
      rw [if_neg (by rw [termAt_get h2, hT, e]; have := hp _ (List.getElem_mem (show d < ps.length by omega)); omega)]
      by_cases hq : qG X (es.length + d + 1) = true
      · have e2 : wantR (qG X) es.length (d + 1) = es.length + d + 1 := by show (if qG X (es.length + d + 1) = true then _ else _) = _; rw [if_pos hq]
        rw [e2, if_pos (of_decide_eq_true hq), if_pos (by omega)]
      · have e2 : wantR (qG X) es.length (d + 1) = wantR (qG X) es.length d := by show (if qG X (es.length + d + 1) = true then _ else _) = _; rw [if_neg hq]
        rw [e2, if_neg (fun x => hq (decide_eq_true x)), ih]
/-! ## Who leads -/
structure LI (k : Nat) (T : Int) (es ps : List RE) (X : RN) : Prop where
  id : X.id = 0
  n : X.n = k
  term : X.term = T + 1
  role : X.role = 3
  log : X.log = es ++ ps
  psT : ∀ e ∈ ps, e.term = T + 1
  rb : RB X
  mt : ∀ t, 0 ≤ X.matc t ∧ X.matc t ≤ X.log.length
  commit : X.commit = (wantR (qG X) es.length ps.length : Nat)
  votes : X.votes < 128
  heard : X.heard < 128
section
variable {k : Nat} {T : Int} {es ps : List RE} {X Y : RN}
theorem LI.len (h : LI k T es ps X) : X.log.length = es.length + ps.length := by rw [h.log, List.length_append]
theorem LI.of (h : LI k T es ps X) (h1 : Y.id = X.id) (h2 : Y.n = X.n) (h3 : Y.term = X.term) (h4 : Y.role = X.role) (h5 : Y.log = X.log) (h6 : Y.matc = X.matc) (h7 : Y.commit = X.commit) (h8 : Y.votes < 128) (h9 : Y.heard < 128) (h10 : RB Y) : LI k T es ps Y :=
  ⟨h1.trans h.id, h2.trans h.n, h3.trans h.term, h4.trans h.role, h5.trans h.log, h.psT, h10, by rw [h6, h5]; exact h.mt, by
    rw [h7, h.commit]
    have : qG Y = qG X := by funext i; unfold qG cntG; rw [h1, h2, h6]
    rw [this], h8, h9⟩
/-- Behind an agreement. -/
theorem li_agree {w : Nat} (he : ∀ e ∈ es, e.term ≤ T) (h1 : Y.id = 0) (h2 : Y.n = k) (h3 : Y.term = T + 1) (h4 : Y.role = 3) (h5 : Y.log = es ++ ps) (h6 : ∀ e ∈ ps, e.term = T + 1) (h7 : RB Y) (h8 : ∀ t, 0 ≤ Y.matc t ∧ Y.matc t ≤ Y.log.length)
    (h9 : Y.commit = (w : Nat)) (hw : w ≤ wantR (qG Y) es.length ps.length) (h10 : Y.votes < 128) (h11 : Y.heard < 128) : LI k T es ps (rAgree Y) := by
  have ha := agree_want h5 h3 he h6 (by omega) ps.length (Nat.le_refl _)
  rw [← List.length_append, ← h5] at ha
  unfold rAgree
  rw [ha]
  split
  · rename_i heq
    split at heq
    · cases heq
    exact ⟨h1, h2, h3, h4, h5, h6, h7, h8, by omega, h10, h11⟩
  · rename_i c heq
    split at heq
    · injection heq with heq
      exact ⟨h1, h2, h3, h4, h5, h6, h7.of rfl rfl rfl rfl, h8, by show (c : Int) = ((wantR (qG Y) es.length ps.length : Nat) : Int); rw [heq], h10, h11⟩
    · cases heq
theorem lastT_le {l : List RE} {u : Int} (h0 : 0 ≤ u) (h : ∀ e ∈ l, e.term ≤ u) : lastT l ≤ u := by
  unfold lastT
  cases hl : l.getLast? with
  | none => exact h0
  | some e => exact h e (List.mem_of_getLast? hl)
theorem li_add {data : ByteArray} (hT : 0 ≤ T) (he : ∀ e ∈ es, e.term ≤ T) (h : LI k T es ps X) (hl : X.log.length + 1 ≤ 1000) :
    (rAdd X data).2 = 0 ∧ LI k T es (ps ++ [⟨T + 1, data⟩]) (rAdd X data).1 ∧ (rAdd X data).1.matc = X.matc ∧ (rAdd X data).1.out.length ≤ X.out.length + 14 := by
  have hla : lastT X.log ≤ T + 1 := lastT_le (by omega) fun e hm => by
    rw [h.log, List.mem_append] at hm
    rcases hm with hm | hm
    · have := he e hm; omega
    · have := h.psT e hm; omega
  have hrb : RB (rToAll (rDirty { X with log := X.log ++ [⟨X.term, data⟩] } ((X.log.length : Int) + 1))) := ⟨h.rb.n1, h.rb.n7, h.rb.id0, h.rb.idn, h.rb.nx, by show (X.log ++ [_]).length ≤ 1024; rw [List.length_append]; show X.log.length + 1 ≤ 1024; omega⟩
  have hrb0 : RB (rDirty { X with log := X.log ++ [⟨X.term, data⟩] } ((X.log.length : Int) + 1)) := ⟨h.rb.n1, h.rb.n7, h.rb.id0, h.rb.idn, h.rb.nx, hrb.l⟩
  unfold rAdd
  rw [if_neg (by rw [h.term]; omega), if_neg (by omega)]
  refine ⟨rfl, ?_, (rAgree_same _).2.2.2.2.1, ?_⟩
  · refine li_agree (w := wantR (qG X) es.length ps.length) he h.id h.n h.term h.role ?_ (fun e hm => ?_) hrb (fun t => ?_) h.commit ?_ h.votes h.heard
    · show X.log ++ [_] = _
      rw [h.log, h.term, List.append_assoc]
    · rw [List.mem_append, List.mem_singleton] at hm
      rcases hm with hm | rfl
      · exact h.psT e hm
      · rfl
    · have := h.mt t
      refine ⟨this.1, ?_⟩
      show X.matc t ≤ ((X.log ++ [_]).length : Int)
      rw [List.length_append]
      show _ ≤ ((X.log.length + 1 : Nat) : Int)
      omega
    · rw [List.length_append]
      exact wantR_up (qG X) es.length ps.length
  · have h1 := rAgree_len hrb
    have h2 := rToAll_len hrb0
    have h3 : (rDirty { X with log := X.log ++ [⟨X.term, data⟩] } ((X.log.length : Int) + 1)).out.length = X.out.length := rfl
    show (rAgree _).out.length ≤ _
    omega
theorem li_propose {data : ByteArray} (hT : 0 ≤ T) (he : ∀ e ∈ es, e.term ≤ T) (h : LI k T es ps X) (hl : X.log.length + 1 ≤ 1000) (hd : data.size ≤ 512) :
    ∃ Y, rPropose X data = (Y, (Y.log.length : Int), 0) ∧ LI k T es (ps ++ [⟨T + 1, data⟩]) Y ∧ Y.matc = X.matc ∧ Y.out.length ≤ X.out.length + 14 := by
  obtain ⟨h1, h2, h3, h4⟩ := li_add hT he h hl (data := data)
  refine ⟨(rAdd X data).1, ?_, h2, h3, h4⟩
  unfold rPropose
  rw [if_neg (by rw [h.role]; decide), if_neg (by omega), if_neg (fun x => x h1)]
theorem cnt_mono {i : Int} (h1 : Y.id = X.id) (h2 : Y.n = X.n) (h3 : ∀ t, X.matc t ≤ Y.matc t) : cntG X i ≤ cntG Y i := by
  unfold cntG
  rw [h2, ← List.countP_eq_length_filter, ← List.countP_eq_length_filter]
  refine List.countP_mono_left fun t _ ht => ?_
  rw [decide_eq_true_iff] at ht ⊢
  rw [h1]
  have := h3 t
  rcases ht with ht | ht
  · exact .inl ht
  · exact .inr (by omega)
def toldM (f t i : Int) (y : Bool) : RM := ⟨6, f, 0, t, i, 0, 0, y, []⟩
def takes (k : Nat) (X : RN) (f i : Int) (y : Bool) : Prop := 0 < f ∧ f < k ∧ y = true ∧ 0 ≤ i ∧ i ≤ X.log.length
instance (X : RN) (f i : Int) (y : Bool) : Decidable (takes k X f i y) := by unfold takes; infer_instance
theorem li_told {f i : Int} {y : Bool} (hT : 0 ≤ T ∧ T < 1099511627776) (he : ∀ e ∈ es, e.term ≤ T) (h : LI k T es ps X) :
    LI k T es ps (rStep X (toldM f (T + 1) i y)) ∧ (rStep X (toldM f (T + 1) i y)).matc = (if takes k X f i y then upd X.matc f.toNat (mx (X.matc f.toNat) i) else X.matc) ∧ (rStep X (toldM f (T + 1) i y)).out.length ≤ X.out.length + 8 := by
  have hn7 := h.rb.n7
  have hkn := h.n
  have hmt : ∀ t, 0 ≤ X.matc t ∧ X.matc t ≤ 1024 := fun t => by have := h.mt t; have := h.rb.l; omega
  by_cases hc : 0 < f ∧ f < k
  · have hcc : countsB X (toldM f (T + 1) i y) := ⟨h.id.symm, by show f ≠ X.id; rw [h.id]; omega, by show 0 ≤ f; omega, by show f < X.n; rw [h.n]; omega, by show (1 : Int) ≤ 6; decide, by show (6 : Int) ≤ 6; decide, by show 0 ≤ T + 1; omega, by show T + 1 ≤ _; omega, Nat.zero_le _, (fun e he => by cases he)⟩
    have hnw : rNewer X (toldM f (T + 1) i y) = X := by unfold rNewer; rw [if_neg (by show ¬ T + 1 > X.term; rw [h.term]; omega)]
    have hst : rStep X (toldM f (T + 1) i y) = rHears X (toldM f (T + 1) i y) := by
      unfold rStep
      rw [if_neg fun x => x hcc, if_neg (show ¬ (toldM f (T + 1) i y).kind = 1 from (by decide : ¬ (6 : Int) = 1)), if_neg (show ¬ (toldM f (T + 1) i y).kind = 2 from (by decide : ¬ (6 : Int) = 2)), hnw, if_neg (by show ¬ T + 1 < X.term; rw [h.term]; omega), if_neg (show ¬ (toldM f (T + 1) i y).kind = 3 from (by decide : ¬ (6 : Int) = 3)), if_neg (show ¬ (toldM f (T + 1) i y).kind = 4 from (by decide : ¬ (6 : Int) = 4))]
    rw [hst]
    have hf7 : X.heard ||| 2 ^ f.toNat < 128 := or7 h.heard (by omega) (by omega)
    unfold rHears
    rw [if_neg (fun x => x h.role)]
    by_cases h1 : (toldM f (T + 1) i y).yes = true ∧ 0 ≤ (toldM f (T + 1) i y).index ∧ (toldM f (T + 1) i y).index ≤ (X.log.length : Int)
    · rw [if_pos h1, if_pos (show takes k X f i y from ⟨hc.1, hc.2, h1⟩)]
      have hi : (toldM f (T + 1) i y).index = i := rfl
      have hfr : (toldM f (T + 1) i y).from_ = f := rfl
      rw [hi, hfr]
      have hrb1 : RB (rHear1 X f.toNat i) := h.rb.hear1 hmt _ (by have := h.rb.l; omega)
      have hge : ∀ t, X.matc t ≤ (rHear1 X f.toNat i).matc t := fun t => by
        show _ ≤ upd X.matc f.toNat (mx (X.matc f.toNat) i) t
        unfold upd mx
        split
        · rename_i e; subst e; split <;> omega
        · exact Int.le_refl _
      have hmt1 : ∀ t, 0 ≤ (rHear1 X f.toNat i).matc t ∧ (rHear1 X f.toNat i).matc t ≤ (rHear1 X f.toNat i).log.length := fun t => by
        have h2 := h.mt t
        have h3 := h.mt f.toNat
        show 0 ≤ upd X.matc f.toNat (mx (X.matc f.toNat) i) t ∧ upd X.matc f.toNat (mx (X.matc f.toNat) i) t ≤ (X.log.length : Int)
        unfold upd mx
        split
        · split <;> omega
        · exact h2
      have hli : LI k T es ps (rAgree (rHear1 X f.toNat i)) := by
        refine li_agree (w := wantR (qG X) es.length ps.length) he h.id h.n h.term h.role h.log h.psT hrb1 hmt1 h.commit ?_ h.votes hf7
        refine wantR_mono (fun j hj => ?_) _
        have hj := of_decide_eq_true hj
        have hm := cnt_mono (i := (j : Int)) (X := X) (Y := rHear1 X f.toNat i) rfl rfl hge
        refine decide_eq_true ?_
        show 2 * _ > X.n
        omega
      have hma : (rAgree (rHear1 X f.toNat i)).matc = upd X.matc f.toNat (mx (X.matc f.toNat) i) := (rAgree_same _).2.2.2.2.1
      have hln := rAgree_len hrb1
      have h0 : (rHear1 X f.toNat i).out = X.out := rfl
      rw [h0] at hln
      split
      · refine ⟨hli.of rfl rfl rfl rfl rfl rfl rfl hli.votes hli.heard (hli.rb.of rfl rfl rfl rfl), hma, ?_⟩
        show ((rAgree _).out ++ [_]).length ≤ _
        rw [List.length_append]
        show _ + 1 ≤ _
        omega
      · exact ⟨hli, hma, by omega⟩
    · rw [if_neg h1, if_neg (show ¬ takes k X f i y from fun x => h1 x.2.2)]
      split
      · refine ⟨h.of rfl rfl rfl rfl rfl rfl rfl h.votes hf7 ((h.rb.hear2 hmt f.toNat i).of rfl rfl rfl rfl), rfl, ?_⟩
        show (X.out ++ [_]).length ≤ _
        rw [List.length_append]
        show _ + 1 ≤ _
        omega
      · exact ⟨h.of rfl rfl rfl rfl rfl rfl rfl h.votes hf7 (h.rb.of rfl rfl rfl rfl), rfl, Nat.le_add_right _ _⟩
  · have hst : rStep X (toldM f (T + 1) i y) = X := by
      unfold rStep
      rw [if_pos]
      rintro ⟨_, c2, c3, c4, _⟩
      have c2 : f ≠ X.id := c2
      have c3 : 0 ≤ f := c3
      have c4 : f < X.n := c4
      rw [h.id] at c2
      rw [h.n] at c4
      omega
    rw [hst, if_neg (show ¬ takes k X f i y from fun x => hc ⟨x.1, x.2.1⟩)]
    exact ⟨h, rfl, Nat.le_add_right _ _⟩
/-! ## Who asks, and who stands -/
structure CI (k : Nat) (es : List RE) (t role : Int) (v : Nat) (X : RN) : Prop where
  id : X.id = 0
  n : X.n = k
  term : X.term = t
  role : X.role = role
  log : X.log = es
  commit : X.commit = 0
  votes : X.votes = v
  heard : X.heard = 0
  next : X.next = fun _ => 0
  matc : X.matc = fun _ => 0
theorem CI.rb {t role : Int} {v : Nat} (h : CI k es t role v X) (hk : 2 ≤ k ∧ k ≤ 7) (hl : es.length ≤ 1000) : RB X := ⟨by rw [h.n]; omega, by rw [h.n]; omega, by rw [h.id]; decide, by rw [h.id, h.n]; omega, fun t => by rw [h.next]; exact ⟨Int.le_refl _, (by decide : (0 : Int) ≤ 1025)⟩, by rw [h.log]; omega⟩
theorem votes_all : ∀ f : Fin 7, 0 < f.val → (2 ^ f.val - 1) ||| 2 ^ f.val = 2 ^ (f.val + 1) - 1 ∧ popT 7 (2 ^ (f.val + 1) - 1) = f.val + 1 ∧ 2 ^ (f.val + 1) - 1 < 128 := by decide
theorem one_not (hk : 2 ≤ k) (h : X.n = k) (hi : X.id = 0) : ¬ mostB X (2 ^ X.id.toNat) := by
  unfold mostB
  rw [hi, h]
  have : popT 7 (2 ^ (0 : Int).toNat) = 1 := by decide
  rw [this]; omega
theorem ci_tick (hk : 2 ≤ k ∧ k ≤ 7) (hT : T < 1099511627776) (hl : es.length ≤ 1000) : CI k es T 1 1 (rTick (rNew 0 k 1 1 T (-1) es) 0) ∧ (rTick (rNew 0 k 1 1 T (-1) es) 0).out.length ≤ 7 := by
  unfold rTick
  rw [if_neg (show ¬ (rNew 0 (k : Int) 1 1 T (-1) es).role = 3 from (by decide : ¬ (0 : Int) = 3)), if_pos (show (rNew 0 (k : Int) 1 1 T (-1) es).term < 1099511627776 ∧ (rNew 0 (k : Int) 1 1 T (-1) es).since + 1 ≥ (rNew 0 (k : Int) 1 1 T (-1) es).elect + (if (0 : Int) > 0 then 0 else 0) % (rNew 0 (k : Int) 1 1 T (-1) es).elect from ⟨hT, (by decide : (0 : Int) + 1 ≥ 1 + (if (0 : Int) > 0 then 0 else 0) % 1)⟩)]
  unfold rAsks
  rw [if_neg (one_not hk.1 rfl rfl)]
  have hc : CI k es T 1 1 (rAsk0 { rNew 0 k 1 1 T (-1) es with since := (rNew 0 k 1 1 T (-1) es).since + 1 }) := ⟨rfl, rfl, rfl, rfl, rfl, rfl, rfl, rfl, rfl, rfl⟩
  refine ⟨⟨rfl, rfl, rfl, rfl, rfl, rfl, rfl, rfl, rfl, rfl⟩, ?_⟩
  have := rAll_len (hc.rb hk hl) ⟨1, 0, 0, T + 1, es.length, lastT es, 0, false, []⟩
  exact this
def yesM (kind f t : Int) : RM := ⟨kind, f, 0, t, 0, 0, 0, true, []⟩
theorem yes_counts {kind f t : Int} (hk : 1 ≤ kind ∧ kind ≤ 6) (ht : 0 ≤ t ∧ t ≤ 1099511627776) (h1 : X.id = 0) (h2 : X.n = k) (hf : 1 ≤ f ∧ f < k) : countsB X (yesM kind f t) :=
  ⟨h1.symm, by show f ≠ X.id; rw [h1]; omega, by show 0 ≤ f; omega, by show f < X.n; rw [h2]; omega, hk.1, hk.2, ht.1, ht.2, Nat.zero_le _, (fun e he => by cases he)⟩
/-- Behind the answers ahead of a vote. -/
def PS (k : Nat) (T : Int) (es : List RE) (f : Nat) (X : RN) : Prop := (CI k es T 1 (2 ^ f - 1) X ∧ 2 * f ≤ k) ∨ CI k es (T + 1) 2 1 X
theorem ps_step {f : Nat} (hk : 2 ≤ k ∧ k ≤ 7) (hT : 0 ≤ T ∧ T < 1099511627776) (hl : es.length ≤ 1000) (hf : 1 ≤ f ∧ f < k) (h : PS k T es f X) :
    PS k T es (f + 1) (rStep X (yesM 2 f (T + 1))) ∧ (rStep X (yesM 2 f (T + 1))).out.length ≤ X.out.length + 7 := by
  have hst : X.id = 0 → X.n = k → rStep X (yesM 2 f (T + 1)) = rTellPre X (yesM 2 f (T + 1)) := fun h1 h2 => by
    unfold rStep
    rw [if_neg fun x => x (yes_counts (by decide) (by omega) h1 h2 (by omega)), if_neg (show ¬ (yesM 2 f (T + 1)).kind = 1 from (by decide : ¬ (2 : Int) = 1)), if_pos (show (yesM 2 f (T + 1)).kind = 2 from rfl)]
  have hy : (yesM 2 f (T + 1)).yes = true := rfl
  rcases h with ⟨h, h2⟩ | h
  · rw [hst h.id h.n]
    unfold rTellPre
    rw [if_neg (fun x => by cases x.1), if_pos ⟨rfl, by show T + 1 = X.term + 1; rw [h.term], h.role⟩]
    have hfr : (yesM 2 f (T + 1)).from_.toNat = f := Int.toNat_natCast f
    rw [hfr, h.votes]
    obtain ⟨e1, e2, e3⟩ := votes_all ⟨f, by omega⟩ hf.1
    simp only at e1 e2 e3
    rw [e1]
    by_cases hm : mostB X (2 ^ (f + 1) - 1)
    · rw [if_pos hm]
      unfold rStands
      rw [if_neg (one_not (X := { X with votes := 2 ^ (f + 1) - 1 }) hk.1 h.n h.id)]
      have hc : CI k es (T + 1) 2 1 (rStand0 { X with votes := 2 ^ (f + 1) - 1 }) := ⟨h.id, h.n, by show X.term + 1 = _; rw [h.term], rfl, h.log, h.commit, by show 2 ^ X.id.toNat = 1; rw [h.id]; rfl, h.heard, h.next, h.matc⟩
      exact ⟨.inr ⟨h.id, h.n, by show X.term + 1 = _; rw [h.term], rfl, h.log, h.commit, by show 2 ^ X.id.toNat = 1; rw [h.id]; rfl, h.heard, h.next, h.matc⟩, rAll_len (hc.rb hk hl) _⟩
    · rw [if_neg hm]
      unfold mostB at hm
      rw [e2, h.n] at hm
      exact ⟨.inl ⟨⟨h.id, h.n, h.term, h.role, h.log, h.commit, rfl, h.heard, h.next, h.matc⟩, by omega⟩, Nat.le_add_right _ _⟩
  · rw [hst h.id h.n]
    unfold rTellPre
    rw [if_neg (fun x => by cases x.1), if_neg (fun x => by have h1 : T + 1 = X.term + 1 := x.2.1; rw [h.term] at h1; omega)]
    exact ⟨.inr h, Nat.le_add_right _ _⟩
theorem cnt_zero {i : Int} (hk : 2 ≤ k ∧ k ≤ 7) (h1 : X.id = 0) (h2 : X.n = k) (h3 : ∀ t, X.matc t = 0) (hi : 0 < i) : cntG X i = 1 := by
  unfold cntG
  have : (List.range X.n.toNat).filter (fun (t : Nat) => decide ((t : Int) = X.id ∨ X.matc t ≥ i)) = (List.range k).filter fun (t : Nat) => decide (t = 0) := by
    rw [h2, show ((k : Int)).toNat = k from Int.toNat_natCast k]
    refine List.filter_congr fun t _ => ?_
    rw [Bool.eq_iff_iff, decide_eq_true_iff, decide_eq_true_iff, h1, h3]
    omega
  rw [this]
  have hk2 : k = 2 ∨ k = 3 ∨ k = 4 ∨ k = 5 ∨ k = 6 ∨ k = 7 := by omega
  rcases hk2 with rfl | rfl | rfl | rfl | rfl | rfl <;> rfl
/-- Behind the votes. -/
def VS (k : Nat) (T : Int) (es : List RE) (f : Nat) (X : RN) : Prop := (CI k es (T + 1) 2 (2 ^ f - 1) X ∧ 2 * f ≤ k) ∨ (LI k T es [⟨T + 1, ⟨#[]⟩⟩] X ∧ ∀ t, X.matc t = 0)
theorem vs_step {f : Nat} (hk : 2 ≤ k ∧ k ≤ 7) (hT : 0 ≤ T ∧ T < 1099511627776) (hl : es.length ≤ 900) (he : ∀ e ∈ es, e.term ≤ T) (hf : 1 ≤ f ∧ f < k) (h : VS k T es f X) :
    VS k T es (f + 1) (rStep X (yesM 4 f (T + 1))) ∧ (rStep X (yesM 4 f (T + 1))).out.length ≤ X.out.length + 14 := by
  have hst : X.id = 0 → X.n = k → X.term = T + 1 → rStep X (yesM 4 f (T + 1)) = rTellVote X (yesM 4 f (T + 1)) := fun h1 h2 h3 => by
    have hnw : rNewer X (yesM 4 f (T + 1)) = X := by unfold rNewer; rw [if_neg (by show ¬ T + 1 > X.term; rw [h3]; omega)]
    unfold rStep
    rw [if_neg fun x => x (yes_counts (by decide) (by omega) h1 h2 (by omega)), if_neg (show ¬ (yesM 4 f (T + 1)).kind = 1 from (by decide : ¬ (4 : Int) = 1)), if_neg (show ¬ (yesM 4 f (T + 1)).kind = 2 from (by decide : ¬ (4 : Int) = 2)), hnw, if_neg (by show ¬ T + 1 < X.term; rw [h3]; omega), if_neg (show ¬ (yesM 4 f (T + 1)).kind = 3 from (by decide : ¬ (4 : Int) = 3)), if_pos (show (yesM 4 f (T + 1)).kind = 4 from rfl)]
  rcases h with ⟨h, h2⟩ | ⟨h, h2⟩
  · rw [hst h.id h.n h.term]
    unfold rTellVote
    rw [if_neg (fun x => by
      rcases x with x | x
      · cases x
      · exact x h.role)]
    have hfr : (yesM 4 f (T + 1)).from_.toNat = f := Int.toNat_natCast f
    rw [hfr, h.votes]
    obtain ⟨e1, e2, e3⟩ := votes_all ⟨f, by omega⟩ hf.1
    simp only at e1 e2 e3
    rw [e1]
    by_cases hm : mostB X (2 ^ (f + 1) - 1)
    · rw [if_pos hm]
      have hli : LI k T es [] (rLead0 { X with votes := 2 ^ (f + 1) - 1 }) := by
        refine ⟨h.id, h.n, h.term, rfl, by show X.log = es ++ []; rw [h.log, List.append_nil], (fun e hm => by cases hm), ⟨by show 1 ≤ X.n; rw [h.n]; omega, by show X.n ≤ 7; rw [h.n]; omega, by show 0 ≤ X.id; rw [h.id]; decide, by show X.id < X.n; rw [h.id, h.n]; omega, fun t => ?_, by show X.log.length ≤ 1024; rw [h.log]; omega⟩, fun t => ?_, h.commit, e3, by show (0 : Nat) < 128; decide⟩
        · show 0 ≤ (if (t : Int) < X.n then (X.log.length : Int) + 1 else X.next t) ∧ (if (t : Int) < X.n then (X.log.length : Int) + 1 else X.next t) ≤ 1025
          rw [h.next, h.log]
          split
          · omega
          · exact ⟨Int.le_refl _, (by decide : (0 : Int) ≤ 1025)⟩
        · show 0 ≤ (if (t : Int) < X.n then 0 else X.matc t) ∧ (if (t : Int) < X.n then 0 else X.matc t) ≤ (X.log.length : Int)
          rw [h.matc]
          split
          · omega
          · show (0 : Int) ≤ 0 ∧ (0 : Int) ≤ _; omega
      obtain ⟨a1, a2, a3, a4⟩ := li_add hT.1 he hli (data := ⟨#[]⟩) (by show X.log.length + 1 ≤ _; rw [h.log]; omega)
      unfold rLeads
      rw [if_neg (fun x => x a1)]
      refine ⟨.inr ⟨a2, fun t => ?_⟩, a4⟩
      rw [a3]
      show (if (t : Int) < X.n then 0 else X.matc t) = 0
      rw [h.matc]
      split <;> rfl
    · rw [if_neg hm]
      unfold mostB at hm
      rw [e2, h.n] at hm
      exact ⟨.inl ⟨⟨h.id, h.n, h.term, h.role, h.log, h.commit, rfl, h.heard, h.next, h.matc⟩, by omega⟩, Nat.le_add_right _ _⟩
  · rw [hst h.id h.n h.term]
    unfold rTellVote
    rw [if_pos (.inr (by rw [h.role]; decide))]
    exact ⟨.inr ⟨h, h2⟩, Nat.le_add_right _ _⟩
/-! ## What a step may take -/
structure GB (X : RN) : Prop where
  rb : RB X
  c0 : 0 ≤ X.commit
  t : 0 ≤ X.term ∧ X.term ≤ 1099511627776
  v : X.votes < 128
  h : X.heard < 128
  m : ∀ t, 0 ≤ X.matc t ∧ X.matc t ≤ 1024
theorem LI.gb (hT : 0 ≤ T ∧ T < 1099511627776) (h : LI k T es ps X) : GB X := ⟨h.rb, by rw [h.commit]; omega, by rw [h.term]; omega, h.votes, h.heard, fun t => by have := h.mt t; have := h.rb.l; omega⟩
theorem CI.gb {t role : Int} {v : Nat} (hk : 2 ≤ k ∧ k ≤ 7) (hl : es.length ≤ 1000) (hv : v < 128) (ht : 0 ≤ t ∧ t ≤ 1099511627776) (h : CI k es t role v X) : GB X :=
  ⟨h.rb hk hl, by rw [h.commit]; decide, by rw [h.term]; exact ht, by rw [h.votes]; exact hv, by rw [h.heard]; decide, fun t => by rw [h.matc]; exact ⟨Int.le_refl _, (by decide : (0 : Int) ≤ 1024)⟩⟩
theorem pow_lt128 {f : Nat} (hf : f ≤ 7) : 2 ^ f - 1 < 128 := by
  have := pow_le128 hf
  have := Nat.two_pow_pos f
  omega
theorem PS.gb {f : Nat} (hk : 2 ≤ k ∧ k ≤ 7) (hT : 0 ≤ T ∧ T < 1099511627776) (hl : es.length ≤ 1000) (h : PS k T es f X) (hf : f ≤ 7) : GB X := by
  rcases h with ⟨h, _⟩ | h
  · exact h.gb hk hl (pow_lt128 hf) (by omega)
  · exact h.gb hk hl (by decide) (by omega)
theorem VS.gb {f : Nat} (hk : 2 ≤ k ∧ k ≤ 7) (hT : 0 ≤ T ∧ T < 1099511627776) (hl : es.length ≤ 1000) (h : VS k T es f X) (hf : f ≤ 7) : GB X := by
  rcases h with ⟨h, _⟩ | ⟨h, _⟩
  · exact h.gb hk hl (pow_lt128 hf) (by omega)
  · exact h.gb hT
theorem step_g {h0 h : Heap} {F : List Res} {d : Nat} {m : RM} {R : Heap → Prop} (H : RaftAt h0 h d X F) (g : GB X) (ho : X.out.length ≤ 600000) (he : m.ents = []) (hk5 : m.kind ≠ 5) (hR : ∀ h', RaftAt h0 h' d (rStep X m) F → R h') :
    C_raft_Node_Step (some ⟨d, 0, none⟩) (m.kind, m.from_, m.to, m.term, m.index, m.logTerm, m.commit, m.yes, ⟨none, 0, 0⟩, ()) h R := raft_Step_ok H g.rb g.c0 g.t g.v g.h g.m ho he hk5 hR
/-! ## What each is known to have -/
def hvL (k : Nat) (L : Int) (m : Nat → Int) : List Int := (List.range k).map fun t => if t = 0 then L else m t
theorem hvL_len (L : Int) (m : Nat → Int) : (hvL k L m).length = k := by unfold hvL; rw [List.length_map, List.length_range]
theorem hvL_get {L : Int} {m : Nat → Int} {t : Nat} (h : t < (hvL k L m).length) : (hvL k L m)[t] = if t = 0 then L else m t := by
  have h2 : t < k := by rw [hvL_len] at h; exact h
  have : (hvL k L m)[t]? = some (if t = 0 then L else m t) := by
    unfold hvL
    rw [List.getElem?_map, List.getElem?_range h2]; rfl
  rw [List.getElem?_eq_getElem h] at this
  injection this
theorem hvL_set0 (L L' : Int) (m : Nat → Int) : (hvL k L m).set 0 L' = hvL k L' m := by
  refine List.ext_getElem (by rw [List.length_set, hvL_len, hvL_len]) fun t h1 h2 => ?_
  rw [List.getElem_set, hvL_get h2]
  by_cases h : t = 0
  · subst h; rfl
  · rw [if_neg (by omega), if_neg h, hvL_get (by rw [List.length_set] at h1; exact h1), if_neg h]
theorem hvL_set {t : Nat} (ht : 0 < t) (L v : Int) (m : Nat → Int) : (hvL k L m).set t v = hvL k L (upd m t v) := by
  refine List.ext_getElem (by rw [List.length_set, hvL_len, hvL_len]) fun u h1 h2 => ?_
  rw [List.getElem_set, hvL_get h2, hvL_get (by rw [List.length_set] at h1; exact h1)]
  unfold upd
  by_cases h : t = u
  · subst h; rw [if_pos rfl, if_neg (by omega), if_pos rfl]
  · rw [if_neg h]
    by_cases hu : u = 0
    · rw [if_pos hu, if_pos hu]
    · rw [if_neg hu, if_neg hu, if_neg (fun x => h x.symm)]
theorem hvL_rep {m : Nat → Int} (h : ∀ t, m t = 0) : List.replicate k (0 : Int) = hvL k 0 m := by
  refine List.ext_getElem (by rw [List.length_replicate, hvL_len]) fun u h1 h2 => ?_
  rw [hvL_get h2, List.getElem_replicate, h]
  split <;> rfl
theorem hvL_cnt {i L : Int} (h1 : X.id = 0) (h2 : X.n = k) (hi : i ≤ L) : (hvL k L X.matc).countP (fun x => decide (x ≥ i)) = cntG X i := by
  unfold hvL cntG
  rw [List.countP_map, h2, show ((k : Int)).toNat = k from Int.toNat_natCast k, ← List.countP_eq_length_filter]
  refine List.countP_congr fun t _ => ?_
  show (decide ((if t = 0 then L else X.matc t) ≥ i) = true) ↔ _
  rw [decide_eq_true_iff, decide_eq_true_iff, h1]
  split
  · subst_vars; exact ⟨fun _ => .inl rfl, fun _ => hi⟩
  · exact ⟨fun x => .inr x, fun x => by
      rcases x with x | x
      · omega
      · exact x⟩
end
end Go.Proofs.Ytniojdaddolnfaa
