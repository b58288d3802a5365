/-
  Layer 16 (status): the model: rows by transaction.
-/
import Derived.Test.YtmpekddpehhdnaaRh
namespace Go.Proofs.Ytmpekddpehhdnaa
open Go

structure SRow where
  tx : Int
  attempt : Int
  stamp : Int
  state : Int
  heard : Int
def eRow : Enc SRow 5 := ⟨fun a => [.int .i64 a.tx, .int .i64 a.attempt, .int .i64 a.stamp, .int .i64 a.state, .int .i64 a.heard], fun _ => rfl, by decide, fun x u hu => by
  simp only [List.mem_cons, List.not_mem_nil, or_false] at hu
  rcases hu with rfl | rfl | rfl | rfl | rfl <;> rfl⟩
def Srt (l : List SRow) : Prop := l.Pairwise fun a b => a.tx < b.tx
/-- Where a transaction's row is, or would be. -/
structure Cutp (l : List SRow) (x : Int) (i : Nat) : Prop where
  le : i ≤ l.length
  lo : ∀ j, (hj : j < l.length) → j < i → l[j].tx < x
  hi : ∀ j, (hj : j < l.length) → i ≤ j → x ≤ l[j].tx
theorem srt_lt {l : List SRow} (h : Srt l) {i j : Nat} (hij : i < j) (hj : j < l.length) : l[i].tx < l[j].tx := List.pairwise_iff_getElem.1 h i j (by omega) hj hij
theorem Cutp.uniq {l : List SRow} {x : Int} {i j : Nat} (h1 : Cutp l x i) (h2 : Cutp l x j) : i = j := by
  rcases Nat.lt_trichotomy i j with h | h | h
  · have a := h2.lo i (by have := h2.le; omega) h
    have b := h1.hi i (by have := h2.le; omega) (Nat.le_refl _)
    omega
  · exact h
  · have a := h1.lo j (by have := h1.le; omega) h
    have b := h2.hi j (by have := h1.le; omega) (Nat.le_refl _)
    omega
def lo (l : List SRow) (x : Int) : Nat := l.countP fun r => decide (r.tx < x)
theorem lo_cut : ∀ {l : List SRow} (_ : Srt l) (x : Int), Cutp l x (lo l x)
  | [], _, x => ⟨Nat.le_refl _, fun j hj => absurd hj (Nat.not_lt_zero _), fun j hj => absurd hj (Nat.not_lt_zero _)⟩
  | a :: l, h, x => by
    obtain ⟨h1, h2⟩ := List.pairwise_cons.1 h
    have ih := lo_cut h2 x
    by_cases ha : a.tx < x
    · have e : lo (a :: l) x = lo l x + 1 := by unfold lo; rw [List.countP_cons_of_pos (by simpa using ha)]
      rw [e]
      refine ⟨by have := ih.le; simp only [List.length_cons]; omega, fun j hj hji => ?_, fun j hj hji => ?_⟩
      · cases j with
        | zero => exact ha
        | succ j => exact ih.lo j (by simpa using hj) (by omega)
      · cases j with
        | zero => omega
        | succ j => exact ih.hi j (by simpa using hj) (by omega)
    · have e : lo (a :: l) x = 0 := by
        unfold lo
        rw [List.countP_cons_of_neg (by simpa using ha), List.countP_eq_zero]
        intro r hr
        have := h1 r hr
        simp; omega
      rw [e]
      refine ⟨Nat.zero_le _, fun j _ hji => absurd hji (Nat.not_lt_zero _), fun j hj _ => ?_⟩
      cases j with
      | zero => show x ≤ a.tx; omega
      | succ j =>
        have := h1 _ (List.getElem_mem (show j < l.length by simpa using hj))
        show x ≤ (l[j]'(by simpa using hj)).tx
        omega
/-- A transaction's row. -/
def cur (l : List SRow) (x : Int) : Option SRow := match l[lo l x]? with
  | some r => if r.tx = x then some r else none
  | none => none
def insR (l : List SRow) (r : SRow) : List SRow := l.take (lo l r.tx) ++ r :: l.drop (lo l r.tx)
def setR (l : List SRow) (r : SRow) : List SRow := l.set (lo l r.tx) r
def rightB (tx attempt now : Int) : Prop := 0 ≤ tx ∧ tx ≤ 1048576 ∧ 0 ≤ attempt ∧ attempt ≤ 1048576 ∧ 0 ≤ now ∧ now ≤ 1099511627776
instance (a b c : Int) : Decidable (rightB a b c) := by unfold rightB; infer_instance
def putM (l : List SRow) (r : SRow) : List SRow × Int × Int := match cur l r.tx with
  | none => (insR l r, r.state, 0)
  | some o => if o.state ≠ 3 then (l, 0, 8) else (setR l { r with stamp := if o.stamp > 0 then o.stamp else r.stamp }, r.state, 0)
/-- How a newer one, an elder one, or the same one goes on. -/
def byHow (l : List SRow) (tx attempt : Int) (new : List SRow × Int × Int) (old : List SRow × Int × Int) (same : SRow → List SRow × Int × Int) : List SRow × Int × Int :=
  match cur l tx with
  | none => new
  | some o => if attempt > o.attempt then new else if attempt < o.attempt then old else same o
def openM (l : List SRow) (tx attempt stamp now : Int) : List SRow × Int × Int :=
  if ¬ rightB tx attempt now ∨ stamp < 1 ∨ stamp > 1099511627776 then (l, 0, 1)
  else byHow l tx attempt (putM l ⟨tx, attempt, stamp, 1, now⟩) (l, 0, 9) fun o => if o.state = 3 then (l, 0, 9) else (l, o.state, 0)
def decideM (l : List SRow) (tx attempt : Int) : List SRow × Int × Int :=
  if ¬ rightB tx attempt 0 then (l, 0, 1)
  else byHow l tx attempt (l, 0, 6) (l, 3, 0) fun o => if o.state = 1 then (setR l { o with state := 2 }, 2, 0) else if o.state = 2 then (l, 2, 0) else (l, 3, 0)
def killM (l : List SRow) (tx attempt now : Int) : List SRow × Int × Int :=
  if ¬ rightB tx attempt now then (l, 0, 1)
  else byHow l tx attempt (putM l ⟨tx, attempt, 0, 3, now⟩) (l, 3, 0) fun o => if o.state = 1 then (setR l { o with state := 3 }, 3, 0) else if o.state = 3 then (l, 3, 0) else (l, 2, 0)
def beatM (l : List SRow) (tx attempt now : Int) : List SRow × Int × Int :=
  if ¬ rightB tx attempt now then (l, 0, 1)
  else byHow l tx attempt (l, 0, 6) (l, 3, 0) fun o => if o.state = 1 then (setR l { o with heard := if now > o.heard then now else o.heard }, o.state, 0) else (l, o.state, 0)
def stateM (l : List SRow) (tx attempt : Int) : Int := match cur l tx with
  | none => 0
  | some o => if attempt > o.attempt then 0 else if attempt < o.attempt then 3 else o.state
structure SAct where
  kind : Int
  tx : Int
  attempt : Int
  stamp : Int
  now : Int
def sActM (l : List SRow) (a : SAct) : List SRow × Int × Int :=
  if a.kind % 4 = 0 then openM l a.tx a.attempt a.stamp a.now
  else if a.kind % 4 = 1 then decideM l a.tx a.attempt
  else if a.kind % 4 = 2 then killM l a.tx a.attempt a.now
  else beatM l a.tx a.attempt a.now
/-! ## Rows -/
section
variable {l : List SRow}
theorem cur_some (h : Srt l) {x : Int} {o : SRow} (hc : cur l x = some o) : ∃ hl : lo l x < l.length, l[lo l x] = o ∧ o.tx = x := by
  unfold cur at hc
  split at hc
  · rename_i r hr
    obtain ⟨hl, hr⟩ := List.getElem?_eq_some_iff.1 hr
    split at hc
    · rename_i e
      injection hc with hc
      exact ⟨hl, hr.trans hc, by rw [← hc]; exact e⟩
    · cases hc
  · cases hc
theorem cur_none (h : Srt l) {x : Int} (hc : cur l x = none) : ∀ r ∈ l, r.tx ≠ x := by
  intro r hr e
  obtain ⟨j, hj, rfl⟩ := List.getElem_of_mem hr
  have c := lo_cut h x
  have hjl : lo l x = j := by
    rcases Nat.lt_trichotomy j (lo l x) with hlt | he | hgt
    · have := c.lo j hj hlt; omega
    · exact he.symm
    · have := srt_lt h hgt hj
      have := c.hi (lo l x) (by omega) (Nat.le_refl _)
      omega
  unfold cur at hc
  rw [hjl, List.getElem?_eq_getElem hj] at hc
  simp only [e, if_true] at hc
  cases hc
theorem cur_iff (h : Srt l) {x : Int} {o : SRow} : cur l x = some o ↔ o ∈ l ∧ o.tx = x := by
  constructor
  · intro hc
    obtain ⟨hl, e1, e2⟩ := cur_some h hc
    exact ⟨by rw [← e1]; exact List.getElem_mem hl, e2⟩
  · rintro ⟨hm, rfl⟩
    cases hc : cur l o.tx with
    | none => exact absurd rfl (cur_none h hc o hm)
    | some o' =>
      obtain ⟨hl, e1, e2⟩ := cur_some h hc
      obtain ⟨j, hj, rfl⟩ := List.getElem_of_mem hm
      have : lo l l[j].tx = j := by
        rcases Nat.lt_trichotomy (lo l l[j].tx) j with hlt | he | hgt
        · have := srt_lt h hlt hj; rw [e1, e2] at this; omega
        · exact he
        · have := srt_lt h hgt hl; rw [e1, e2] at this; omega
      rw [← e1]
      simp only [this]
theorem mem_ins {r x : SRow} : x ∈ insR l r ↔ x = r ∨ x ∈ l := by
  unfold insR
  rw [List.mem_append, List.mem_cons]
  constructor
  · rintro (h | h | h)
    · exact .inr (List.mem_of_mem_take h)
    · exact .inl h
    · exact .inr (List.mem_of_mem_drop h)
  · rintro (h | h)
    · exact .inr (.inl h)
    · rw [← List.take_append_drop (lo l r.tx) l] at h
      rcases List.mem_append.1 h with h | h
      · exact .inl h
      · exact .inr (.inr h)
theorem ins_srt (h : Srt l) {r : SRow} (hn : cur l r.tx = none) : Srt (insR l r) := by
  have c := lo_cut h r.tx
  have hno := cur_none h hn
  unfold insR Srt
  rw [List.pairwise_append]
  refine ⟨h.sublist (List.take_sublist ..), List.pairwise_cons.2 ⟨fun b hb => ?_, h.sublist (List.drop_sublist ..)⟩, fun a ha b hb => ?_⟩
  · obtain ⟨j, hj, rfl⟩ := List.getElem_of_mem hb
    rw [List.getElem_drop]
    rw [List.length_drop] at hj
    have h1 := c.hi (lo l r.tx + j) (by omega) (by omega)
    have h2 := hno _ (List.getElem_mem (show lo l r.tx + j < l.length by omega))
    omega
  · obtain ⟨i, hi, rfl⟩ := List.getElem_of_mem ha
    rw [List.getElem_take]
    rw [List.length_take] at hi
    have h1 := c.lo i (by omega) (by omega)
    rcases List.mem_cons.1 hb with hb | hb
    · rw [hb]; exact h1
    · obtain ⟨j, hj, rfl⟩ := List.getElem_of_mem hb
      rw [List.getElem_drop]
      rw [List.length_drop] at hj
      exact srt_lt h (by omega) (by omega)
theorem set_srt (h : Srt l) {r o : SRow} (hc : cur l r.tx = some o) : Srt (setR l r) := by
  obtain ⟨hl, e1, e2⟩ := cur_some h hc
  unfold setR Srt
  rw [List.pairwise_iff_getElem]
  intro i j hi hj hij
  rw [List.length_set] at hi hj
  rw [List.getElem_set, List.getElem_set]
  have h1 := srt_lt h hij hj
  split
  · rename_i e; subst e; rw [if_neg (by omega)]; rw [e1, e2] at h1; exact h1
  · split
    · rename_i e; subst e; rw [e1, e2] at h1; exact h1
    · exact h1
theorem mem_set (h : Srt l) {r o x : SRow} (hc : cur l r.tx = some o) : x ∈ setR l r ↔ x = r ∨ (x ∈ l ∧ x.tx ≠ r.tx) := by
  obtain ⟨hl, e1, e2⟩ := cur_some h hc
  unfold setR
  constructor
  · intro hx
    obtain ⟨j, hj, rfl⟩ := List.getElem_of_mem hx
    rw [List.length_set] at hj
    rw [List.getElem_set]
    split
    · exact .inl rfl
    · rename_i hne
      refine .inr ⟨List.getElem_mem hj, fun e => hne ?_⟩
      rcases Nat.lt_trichotomy (lo l r.tx) j with hlt | he | hgt
      · have := srt_lt h hlt hj; rw [e1, e2] at this; omega
      · exact he
      · have := srt_lt h hgt hl; rw [e1, e2] at this; omega
  · rintro (rfl | ⟨hx, hne⟩)
    · exact List.mem_set hl x
    · obtain ⟨j, hj, rfl⟩ := List.getElem_of_mem hx
      have hjl : lo l r.tx ≠ j := fun e => hne (by subst e; rw [e1, e2])
      exact List.mem_iff_getElem.2 ⟨j, by rw [List.length_set]; exact hj, by rw [List.getElem_set, if_neg hjl]⟩
theorem cur_eq {l' : List SRow} (h : Srt l) (h' : Srt l') {x : Int} (he : ∀ o : SRow, o.tx = x → (o ∈ l' ↔ o ∈ l)) : cur l' x = cur l x := by
  cases hc : cur l x with
  | none =>
    cases hc' : cur l' x with
    | none => rfl
    | some o =>
      obtain ⟨h1, h2⟩ := (cur_iff h').1 hc'
      exact absurd h2 (cur_none h hc o ((he o h2).1 h1))
  | some o =>
    obtain ⟨h1, h2⟩ := (cur_iff h).1 hc
    exact (cur_iff h').2 ⟨(he o h2).2 h1, h2⟩
theorem cur_ins (h : Srt l) {r : SRow} (hn : cur l r.tx = none) (x : Int) : cur (insR l r) x = if x = r.tx then some r else cur l x := by
  have h' := ins_srt h hn
  split
  · rename_i e
    exact (cur_iff h').2 ⟨mem_ins.2 (.inl rfl), e.symm⟩
  · rename_i e
    refine cur_eq h h' fun o ho => ?_
    rw [mem_ins]
    exact ⟨fun hh => hh.resolve_left fun e2 => e (by rw [← ho, e2]), .inr⟩
theorem cur_set (h : Srt l) {r o : SRow} (hc : cur l r.tx = some o) (x : Int) : cur (setR l r) x = if x = r.tx then some r else cur l x := by
  have h' := set_srt h hc
  split
  · rename_i e
    exact (cur_iff h').2 ⟨(mem_set h hc).2 (.inl rfl), e.symm⟩
  · rename_i e
    refine cur_eq h h' fun o ho => ?_
    rw [mem_set h hc]
    exact ⟨fun hh => (hh.resolve_left fun e2 => e (by rw [← ho, e2])).1, fun hh => .inr ⟨hh, by rw [ho]; exact e⟩⟩
/-- Two sorted rows with the same members are the same. -/
theorem srt_ext : ∀ {a b : List SRow}, Srt a → Srt b → (∀ x, x ∈ a ↔ x ∈ b) → a = b
  | [], [], _, _, _ => rfl
  | [], y :: b, _, _, h => by have := (h y).2 (List.mem_cons_self ..); cases this
  | x :: a, [], _, _, h => by have := (h x).1 (List.mem_cons_self ..); cases this
  | x :: a, y :: b, ha, hb, h => by
    obtain ⟨a1, a2⟩ := List.pairwise_cons.1 ha
    obtain ⟨b1, b2⟩ := List.pairwise_cons.1 hb
    have hxy : x = y := by
      rcases List.mem_cons.1 ((h x).1 (List.mem_cons_self ..)) with e | e
      · exact e
      · rcases List.mem_cons.1 ((h y).2 (List.mem_cons_self ..)) with e2 | e2
        · exact e2.symm
        · have := b1 x e; have := a1 y e2; omega
    subst hxy
    congr 1
    refine srt_ext a2 b2 fun z => ⟨fun hz => ?_, fun hz => ?_⟩
    · rcases List.mem_cons.1 ((h z).1 (List.mem_cons_of_mem _ hz)) with e | e
      · subst e; have := a1 z hz; omega
      · exact e
    · rcases List.mem_cons.1 ((h z).2 (List.mem_cons_of_mem _ hz)) with e | e
      · subst e; have := b1 z hz; omega
      · exact e
/-! ## What rows may be -/
def okRow (r : SRow) : Prop := rightB r.tx r.attempt r.heard ∧ 0 ≤ r.stamp ∧ r.stamp ≤ 1099511627776 ∧ 1 ≤ r.state ∧ r.state ≤ 3
structure SOk (N : Nat) (l : List SRow) : Prop where
  srt : Srt l
  ok : ∀ r ∈ l, okRow r
  len : l.length ≤ N
theorem SOk.ins {N : Nat} (h : SOk N l) {r : SRow} (hn : cur l r.tx = none) (hr : okRow r) : SOk (N + 1) (insR l r) := by
  refine ⟨ins_srt h.srt hn, fun x hx => ?_, ?_⟩
  · rcases mem_ins.1 hx with e | e
    · rw [e]; exact hr
    · exact h.ok x e
  · unfold insR
    have := (lo_cut h.srt r.tx).le
    have := h.len
    rw [List.length_append, List.length_take, List.length_cons, List.length_drop]; omega
theorem SOk.set {N : Nat} (h : SOk N l) {r o : SRow} (hc : cur l r.tx = some o) (hr : okRow r) : SOk (N + 1) (setR l r) := by
  refine ⟨set_srt h.srt hc, fun x hx => ?_, ?_⟩
  · rcases (mem_set h.srt hc).1 hx with e | e
    · rw [e]; exact hr
    · exact h.ok x e.1
  · unfold setR; rw [List.length_set]; have := h.len; omega
theorem SOk.mono {N M : Nat} (h : SOk N l) (hM : N ≤ M) : SOk M l := ⟨h.srt, h.ok, Nat.le_trans h.len hM⟩
theorem SOk.put {N : Nat} (h : SOk N l) {r : SRow} (hr : okRow r) : SOk (N + 1) (putM l r).1 := by
  unfold putM
  split
  · rename_i hc; exact h.ins hc hr
  · rename_i o hc
    split
    · exact h.mono (Nat.le_succ _)
    · have ho := h.ok o ((cur_iff h.srt).1 hc).1
      refine h.set (r := { r with stamp := if o.stamp > 0 then o.stamp else r.stamp }) hc ?_
      unfold okRow at ho hr ⊢
      refine ⟨hr.1, ?_, ?_, hr.2.2.2⟩ <;> simp only [] <;> split <;> omega
theorem SOk.act {N : Nat} (h : SOk N l) (a : SAct) : SOk (N + 1) (sActM l a).1 := by
  have same := h.mono (Nat.le_succ N)
  have how : ∀ {tx attempt : Int} {new old : List SRow × Int × Int} {f : SRow → List SRow × Int × Int}, SOk (N + 1) new.1 → SOk (N + 1) old.1 → (∀ o, cur l tx = some o → okRow o → SOk (N + 1) (f o).1) → SOk (N + 1) (byHow l tx attempt new old f).1 := fun h1 h2 h3 => by
    unfold byHow
    split
    · exact h1
    · rename_i o hc
      split
      · exact h1
      · split
        · exact h2
        · exact h3 o hc (h.ok o ((cur_iff h.srt).1 hc).1)
  have st : ∀ {o : SRow} {tx s hd : Int}, cur l tx = some o → okRow o → 1 ≤ s → s ≤ 3 → 0 ≤ hd → hd ≤ 1099511627776 → SOk (N + 1) (setR l { o with state := s, heard := hd }) := fun hc ho h1 h2 h3 h4 => by
    have e := ((cur_iff h.srt).1 hc).2
    subst e
    refine SOk.set h hc ?_
    unfold okRow rightB at ho ⊢
    exact ⟨⟨ho.1.1, ho.1.2.1, ho.1.2.2.1, ho.1.2.2.2.1, h3, h4⟩, ho.2.1, ho.2.2.1, h1, h2⟩
  have hd : ∀ {o : SRow}, okRow o → 0 ≤ o.heard ∧ o.heard ≤ 1099511627776 := fun ho => by unfold okRow rightB at ho; omega
  unfold sActM
  split
  · unfold openM
    split
    · exact same
    · rename_i hg
      refine how (h.put ?_) same fun o _ _ => ?_
      · unfold okRow; simp only []
        have : rightB a.tx a.attempt a.now := Decidable.not_not.1 fun x => hg (.inl x)
        exact ⟨this, by omega, by omega, by decide, by decide⟩
      · split <;> exact same
  · split
    · unfold decideM
      split
      · exact same
      · refine how same same fun o hc ho => ?_
        split
        · exact st hc ho (by decide) (by decide) (hd ho).1 (hd ho).2
        · split <;> exact same
    · split
      · unfold killM
        split
        · exact same
        · rename_i hg
          have hr : rightB a.tx a.attempt a.now := Decidable.not_not.1 hg
          refine how (h.put ⟨hr, by show (0 : Int) ≤ 0; decide, by show (0 : Int) ≤ 1099511627776; decide, by show (1 : Int) ≤ 3; decide, by show (3 : Int) ≤ 3; decide⟩) same fun o hc ho => ?_
          split
          · exact st hc ho (by decide) (by decide) (hd ho).1 (hd ho).2
          · split <;> exact same
      · unfold beatM
        split
        · exact same
        · rename_i hg
          have hr : rightB a.tx a.attempt a.now := Decidable.not_not.1 hg
          unfold rightB at hr
          refine how same same fun o hc ho => ?_
          split
          · have h1 := hd ho
            have h2 : 1 ≤ o.state ∧ o.state ≤ 3 := by unfold okRow at ho; omega
            exact st hc ho h2.1 h2.2 (by split <;> omega) (by split <;> omega)
          · exact same
end
end Go.Proofs.Ytmpekddpehhdnaa
