/-
  Layer 16 (status): what an act does to a row; what was told stays.
-/
import Derived.Test.YtmpekddpehhdnaaUd
import Derived.Test.YtmpekddpehhdnaaRm
namespace Go.Proofs.Ytmpekddpehhdnaa
open Go

/-- What an act does to the rows. -/
inductive SStep (l : List SRow) : List SRow → Prop
  | same : SStep l l
  | ins (r : SRow) (hn : cur l r.tx = none) (hs : r.state = 3 ∨ r.state = 1) : SStep l (insR l r)
  | upd (r o : SRow) (hc : cur l r.tx = some o) (h1 : o.state = 1) (ha : r.attempt = o.attempt) (ht : r.stamp = o.stamp) : SStep l (setR l r)
  | new (r o : SRow) (hc : cur l r.tx = some o) (h3 : o.state = 3) (ha : o.attempt < r.attempt) (ht : o.stamp > 0 → r.stamp = o.stamp) : SStep l (setR l r)
section
variable {l : List SRow} {N : Nat}
theorem putM_none {r : SRow} (hc : cur l r.tx = none) : putM l r = (insR l r, r.state, 0) := by unfold putM; rw [hc]
theorem putM_some {r o : SRow} (hc : cur l r.tx = some o) : putM l r = if o.state ≠ 3 then (l, 0, 8) else (setR l { r with stamp := if o.stamp > 0 then o.stamp else r.stamp }, r.state, 0) := by unfold putM; rw [hc]
theorem byHow_none {tx attempt : Int} {new old : List SRow × Int × Int} {f : SRow → List SRow × Int × Int} (hc : cur l tx = none) : byHow l tx attempt new old f = new := by unfold byHow; rw [hc]
theorem byHow_some {tx attempt : Int} {new old : List SRow × Int × Int} {f : SRow → List SRow × Int × Int} {o : SRow} (hc : cur l tx = some o) : byHow l tx attempt new old f = if attempt > o.attempt then new else if attempt < o.attempt then old else f o := by unfold byHow; rw [hc]
theorem stateM_none {tx attempt : Int} (hc : cur l tx = none) : stateM l tx attempt = 0 := by unfold stateM; rw [hc]
theorem stateM_some {tx attempt : Int} {o : SRow} (hc : cur l tx = some o) : stateM l tx attempt = if attempt > o.attempt then 0 else if attempt < o.attempt then 3 else o.state := by unfold stateM; rw [hc]
/-- An act's answer: what a put, by what stands, and what a row's own state come to. -/
structure SAns (l : List SRow) (tx attempt : Int) (x : List SRow × Int × Int) : Prop where
  step : SStep l x.1
  err : x.2.2 ≠ 0 → x.2.1 = 0
  ok : x.2.2 = 0 → stateM x.1 tx attempt = x.2.1 ∧ 1 ≤ x.2.1 ∧ x.2.1 ≤ 3
theorem put_ans (ho : SOk N l) {r : SRow} (hr : okRow r) (hs : r.state = 3 ∨ r.state = 1) (hb : ∀ o, cur l r.tx = some o → o.attempt < r.attempt) : SAns l r.tx r.attempt (putM l r) := by
  cases hc : cur l r.tx with
  | none =>
    rw [putM_none hc]
    refine ⟨.ins r hc hs, fun h => absurd rfl h, fun _ => ⟨?_, by show 1 ≤ r.state; omega, by show r.state ≤ 3; omega⟩⟩
    have := cur_ins ho.srt hc r.tx
    rw [if_pos rfl] at this
    show stateM (insR l r) r.tx r.attempt = r.state
    rw [stateM_some this, if_neg (by omega), if_neg (by omega)]
  | some o =>
    rw [putM_some hc]
    split
    · exact ⟨.same, fun _ => rfl, fun h => absurd h (by show ¬ (8 : Int) = 0; decide)⟩
    · rename_i h3
      refine ⟨.new { r with stamp := if o.stamp > 0 then o.stamp else r.stamp } o hc (Decidable.not_not.1 h3) (hb o hc) (fun hp => by show (if o.stamp > 0 then o.stamp else r.stamp) = o.stamp; rw [if_pos hp]), fun h => absurd rfl h, fun _ => ⟨?_, by show 1 ≤ r.state; omega, by show r.state ≤ 3; omega⟩⟩
      have := cur_set (r := { r with stamp := if o.stamp > 0 then o.stamp else r.stamp }) ho.srt hc r.tx
      rw [if_pos rfl] at this
      show stateM (setR l { r with stamp := if o.stamp > 0 then o.stamp else r.stamp }) r.tx r.attempt = r.state
      rw [stateM_some this]
      show (if r.attempt > r.attempt then 0 else if r.attempt < r.attempt then 3 else r.state) = r.state
      rw [if_neg (by omega), if_neg (by omega)]
theorem how_ans {tx attempt : Int} {new old : List SRow × Int × Int} {f : SRow → List SRow × Int × Int} (h1 : (∀ o, cur l tx = some o → o.attempt < attempt) → SAns l tx attempt new) (h2 : ∀ o, cur l tx = some o → attempt < o.attempt → SAns l tx attempt old) (h3 : ∀ o, cur l tx = some o → attempt = o.attempt → SAns l tx attempt (f o)) : SAns l tx attempt (byHow l tx attempt new old f) := by
  cases hc : cur l tx with
  | none => rw [byHow_none hc]; exact h1 fun o ho => by rw [hc] at ho; cases ho
  | some o =>
    rw [byHow_some hc]
    split
    · rename_i h; exact h1 fun o' ho' => by rw [hc] at ho'; injection ho' with ho'; subst ho'; exact h
    · split
      · rename_i h; exact h2 o hc h
      · exact h3 o hc (by omega)
theorem err_ans {tx attempt e : Int} (he : e ≠ 0) : SAns l tx attempt (l, 0, e) := ⟨.same, fun _ => rfl, fun h => absurd h he⟩
theorem elder_ans {tx attempt : Int} {o : SRow} (hc : cur l tx = some o) (h : attempt < o.attempt) : SAns l tx attempt (l, 3, 0) :=
  ⟨.same, fun h => absurd rfl h, fun _ => ⟨by show stateM l tx attempt = 3; rw [stateM_some hc, if_neg (by omega), if_pos h], by show (1 : Int) ≤ 3; decide, by show (3 : Int) ≤ 3; decide⟩⟩
theorem same_ans {tx attempt s : Int} {o : SRow} (hc : cur l tx = some o) (h : attempt = o.attempt) (hs : s = o.state) (hk : okRow o) : SAns l tx attempt (l, s, 0) :=
  ⟨.same, fun h => absurd rfl h, fun _ => ⟨by show stateM l tx attempt = s; rw [stateM_some hc, if_neg (by omega), if_neg (by omega), hs], by unfold okRow at hk; show 1 ≤ s; omega, by unfold okRow at hk; show s ≤ 3; omega⟩⟩
theorem set_ans (ho : SOk N l) {tx attempt s hd : Int} {o : SRow} (hc : cur l tx = some o) (h : attempt = o.attempt) (h1 : o.state = 1) (hs : 1 ≤ s ∧ s ≤ 3) : SAns l tx attempt (setR l { o with state := s, heard := hd }, s, 0) := by
  have e := ((cur_iff ho.srt).1 hc).2
  subst e
  refine ⟨.upd _ o hc h1 rfl rfl, fun h => absurd rfl h, fun _ => ⟨?_, hs⟩⟩
  have := cur_set (r := { o with state := s, heard := hd }) ho.srt hc o.tx
  rw [if_pos rfl] at this
  show stateM (setR l { o with state := s, heard := hd }) o.tx attempt = s
  rw [stateM_some this]
  show (if attempt > o.attempt then 0 else if attempt < o.attempt then 3 else s) = s
  rw [if_neg (by omega), if_neg (by omega)]
theorem act_ans (ho : SOk N l) (a : SAct) : SAns l a.tx a.attempt (sActM l a) := by
  have ok : ∀ {o : SRow}, cur l a.tx = some o → okRow o := fun hc => ho.ok _ ((cur_iff ho.srt).1 hc).1
  unfold sActM
  split
  · unfold openM
    split
    · exact err_ans (by decide)
    · rename_i hg
      have hr : rightB a.tx a.attempt a.now := Decidable.not_not.1 fun x => hg (.inl x)
      refine how_ans (fun hb => put_ans (r := ⟨a.tx, a.attempt, a.stamp, 1, a.now⟩) ho ⟨hr, by show 0 ≤ a.stamp; omega, by show a.stamp ≤ _; omega, by show (1 : Int) ≤ 1; decide, by show (1 : Int) ≤ 3; decide⟩ (.inr rfl) hb) (fun o _ _ => err_ans (by decide)) fun o hc he => ?_
      split
      · exact err_ans (by decide)
      · exact same_ans hc he rfl (ok hc)
  · split
    · unfold decideM
      split
      · exact err_ans (by decide)
      · refine how_ans (fun _ => err_ans (by decide)) (fun o hc h => elder_ans hc h) fun o hc he => ?_
        split
        · rename_i h1; exact set_ans (hd := o.heard) ho hc he h1 (by decide)
        · split
          · rename_i h2; exact same_ans hc he h2.symm (ok hc)
          · have := ok hc
            exact same_ans hc he (by unfold okRow at this; omega) this
    · split
      · unfold killM
        split
        · exact err_ans (by decide)
        · rename_i hg
          have hr : rightB a.tx a.attempt a.now := Decidable.not_not.1 hg
          refine how_ans (fun hb => put_ans (r := ⟨a.tx, a.attempt, 0, 3, a.now⟩) ho ⟨hr, by show (0 : Int) ≤ 0; decide, by show (0 : Int) ≤ 1099511627776; decide, by show (1 : Int) ≤ 3; decide, by show (3 : Int) ≤ 3; decide⟩ (.inl rfl) hb) (fun o hc h => elder_ans hc h) fun o hc he => ?_
          split
          · rename_i h1; exact set_ans (hd := o.heard) ho hc he h1 (by decide)
          · split
            · rename_i h2; exact same_ans hc he h2.symm (ok hc)
            · have := ok hc
              exact same_ans hc he (by unfold okRow at this; omega) this
      · unfold beatM
        split
        · exact err_ans (by decide)
        · refine how_ans (fun _ => err_ans (by decide)) (fun o hc h => elder_ans hc h) fun o hc he => ?_
          split
          · rename_i h1; exact set_ans (s := o.state) ho hc he h1 (by omega)
          · exact same_ans hc he rfl (ok hc)
/-! ## What was told stays -/
theorem step_stay (ho : SOk N l) {l' : List SRow} (hs : SStep l l') (tx attempt : Int) (h2 : 2 ≤ stateM l tx attempt) : stateM l' tx attempt = stateM l tx attempt := by
  cases hc : cur l tx with
  | none => rw [stateM_none hc] at h2; omega
  | some q =>
    rw [stateM_some hc] at h2 ⊢
    cases hs with
    | same => rw [stateM_some hc]
    | ins r hn _ =>
      have hne : tx ≠ r.tx := fun e => by rw [e, hn] at hc; cases hc
      have := cur_ins ho.srt hn tx
      rw [if_neg hne, hc] at this
      rw [stateM_some this]
    | upd r o hco h1 ha _ =>
      have := cur_set ho.srt hco tx
      by_cases e : tx = r.tx
      · rw [if_pos e] at this
        rw [e, hco] at hc
        injection hc with hc
        subst hc
        rw [stateM_some this, ha]
        split
        · rfl
        · rename_i h5
          rw [if_neg h5] at h2
          split
          · rfl
          · rename_i h6; rw [if_neg h6] at h2; omega
      · rw [if_neg e, hc] at this
        rw [stateM_some this]
    | new r o hco h3 ha _ =>
      have := cur_set ho.srt hco tx
      by_cases e : tx = r.tx
      · rw [if_pos e] at this
        rw [e, hco] at hc
        injection hc with hc
        subst hc
        rw [stateM_some this]
        by_cases h5 : attempt > o.attempt
        · rw [if_pos h5] at h2; omega
        · rw [if_neg h5, if_neg (by omega), if_pos (by omega)]
          split
          · rfl
          · exact h3.symm
      · rw [if_neg e, hc] at this
        rw [stateM_some this]
theorem step_won (ho : SOk N l) {l' : List SRow} (hs : SStep l l') {tx : Int} {q : SRow} (hc : cur l tx = some q) (h2 : q.state = 2) : cur l' tx = some q := by
  cases hs with
  | same => exact hc
  | ins r hn _ =>
    have hne : tx ≠ r.tx := fun e => by rw [e, hn] at hc; cases hc
    rw [cur_ins ho.srt hn tx, if_neg hne, hc]
  | upd r o hco h1 ha _ =>
    have hne : tx ≠ r.tx := fun e => by rw [e, hco] at hc; injection hc with hc; subst hc; omega
    rw [cur_set ho.srt hco tx, if_neg hne, hc]
  | new r o hco h3 ha _ =>
    have hne : tx ≠ r.tx := fun e => by rw [e, hco] at hc; injection hc with hc; subst hc; omega
    rw [cur_set ho.srt hco tx, if_neg hne, hc]
def ToldInv (l : List SRow) (f : Int × Int → Option Int) : Prop := ∀ p v, f p = some v → 2 ≤ v → stateM l p.1 p.2 = v
def WonInv (l : List SRow) (g : Int → Option Int) : Prop := ∀ tx w, g tx = some w → ∃ o, cur l tx = some o ∧ o.attempt = w ∧ o.state = 2
theorem ToldInv.step (ho : SOk N l) {l' : List SRow} (hs : SStep l l') {f : Int × Int → Option Int} (h : ToldInv l f) : ToldInv l' f := fun p v hp h2 => by
  have := h p v hp h2
  rw [step_stay ho hs p.1 p.2 (by omega), this]
theorem WonInv.step (ho : SOk N l) {l' : List SRow} (hs : SStep l l') {g : Int → Option Int} (h : WonInv l g) : WonInv l' g := fun tx w hw => by
  obtain ⟨o, h1, h2, h3⟩ := h tx w hw
  exact ⟨o, step_won ho hs h1 h3, h2, h3⟩
theorem ToldInv.put {f : Int × Int → Option Int} (h : ToldInv l f) {p : Int × Int} {n : Int} (hn : stateM l p.1 p.2 = n) : ToldInv l (updF f p n) := fun q v hq h2 => by
  unfold updF at hq
  split at hq
  · rename_i e; injection hq with hq; rw [e, hn, hq]
  · exact h q v hq h2
theorem WonInv.put {g : Int → Option Int} (h : WonInv l g) {tx a : Int} (hn : stateM l tx a = 2) : WonInv l (updF g tx a) := fun q v hq => by
  unfold updF at hq
  split at hq
  · rename_i e
    injection hq with hq
    subst e hq
    cases hc : cur l q with
    | none => rw [stateM_none hc] at hn; omega
    | some o =>
      rw [stateM_some hc] at hn
      refine ⟨o, rfl, ?_, ?_⟩
      · split at hn
        · omega
        · split at hn <;> omega
      · split at hn
        · omega
        · split at hn <;> omega
  · exact h q v hq
/-- What is committed is the one that won. -/
theorem WonInv.at {g : Int → Option Int} (h : WonInv l g) {tx w a n : Int} (hw : g tx = some w) (hn : stateM l tx a = n) (h1 : 1 ≤ n) : (n = 2 → w = a) ∧ (n ≠ 2 → a < w) := by
  obtain ⟨o, h2, h3, h4⟩ := h tx w hw
  rw [stateM_some h2] at hn
  constructor
  · intro e; split at hn <;> (try split at hn) <;> omega
  · intro e; split at hn <;> (try split at hn) <;> omega
/-! ## The first stamp -/
structure StInv (l : List SRow) (g : Int → Option Int) : Prop where
  st : ∀ tx o, cur l tx = some o → o.stamp = (g tx).getD 0
  no : ∀ tx, cur l tx = none → g tx = none
  go : ∀ tx o, cur l tx = some o → o.state = 1 → 1 ≤ o.stamp
end
end Go.Proofs.Ytmpekddpehhdnaa
