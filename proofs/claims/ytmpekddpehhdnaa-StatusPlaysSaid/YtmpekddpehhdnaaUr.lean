/-
  Layer 16 (status): the document's row of all attempts, and the contracts of its calls.
-/
import Derived.Test.YtmpekddpehhdnaaUe
import Derived.Test.YtmpekddpehhdnaaSUR
namespace Go.Proofs.Ytmpekddpehhdnaa
open Go

/-! ## One reading of all acts -/
def sameM (kind now : Int) (o : SRow) : SRow :=
  if kind = 5 ∧ o.state = 1 then { o with state := 2 } else if kind = 6 ∧ o.state = 1 then { o with state := 3 }
  else if kind = 8 ∧ o.state = 1 then { o with heard := if now > o.heard then now else o.heard } else o
def genM (kind : Int) (l : List SRow) (tx attempt stamp now : Int) : List SRow × Int × Int :=
  if ¬ rightB tx attempt now ∨ (kind = 1 ∧ (stamp < 1 ∨ stamp > 1099511627776)) then (l, 0, 1)
  else byHow l tx attempt (if kind = 5 ∨ kind = 8 then (l, 0, 6) else putM l ⟨tx, attempt, if kind = 1 then stamp else 0, if kind = 1 then 1 else 3, now⟩)
    (l, if kind = 1 then 0 else 3, if kind = 1 then 9 else 0) fun o => if kind = 1 ∧ o.state = 3 then (l, 0, 9) else (setR l (sameM kind now o), (sameM kind now o).state, 0)
section
variable {l : List SRow} {N : Nat}
theorem setR_self (ho : SOk N l) {x : Int} {o : SRow} (hc : cur l x = some o) : setR l o = l := by
  obtain ⟨hl, e1, e2⟩ := cur_some ho.srt hc
  unfold setR
  rw [e2]
  conv => lhs; rw [← e1]
  exact List.set_getElem_self ..
theorem byHow_congr {tx attempt : Int} {n1 n2 o1 o2 : List SRow × Int × Int} {f1 f2 : SRow → List SRow × Int × Int} (h1 : n1 = n2) (h2 : o1 = o2) (h3 : ∀ o, cur l tx = some o → f1 o = f2 o) : byHow l tx attempt n1 o1 f1 = byHow l tx attempt n2 o2 f2 := by
  subst h1 h2
  cases hc : cur l tx with
  | none => rw [byHow_none hc, byHow_none hc]
  | some o => rw [byHow_some hc, byHow_some hc, h3 o hc]
theorem open_gen (ho : SOk N l) (tx attempt stamp now : Int) : openM l tx attempt stamp now = genM 1 l tx attempt stamp now := by
  unfold openM genM
  by_cases hb : ¬ rightB tx attempt now ∨ stamp < 1 ∨ stamp > 1099511627776
  · rw [if_pos hb, if_pos (hb.imp id fun x => ⟨rfl, x⟩)]
  · rw [if_neg hb, if_neg fun x => hb (x.imp id fun y => y.2)]
    refine byHow_congr (by rw [if_neg (by decide)]; rfl) rfl fun o hc => ?_
    by_cases h3 : o.state = 3
    · rw [if_pos h3, if_pos ⟨rfl, h3⟩]
    · have e : sameM 1 now o = o := by unfold sameM; rw [if_neg (by simp), if_neg (by simp), if_neg (by simp)]
      rw [if_neg h3, if_neg fun x => h3 x.2, e, setR_self ho hc]
theorem decide_gen (ho : SOk N l) (tx attempt : Int) : decideM l tx attempt = genM 5 l tx attempt 0 0 := by
  unfold decideM genM
  by_cases hb : ¬ rightB tx attempt 0
  · rw [if_pos hb, if_pos (.inl hb)]
  · rw [if_neg hb, if_neg fun x => by rcases x with x | x; exact hb x; exact absurd x.1 (by decide)]
    refine byHow_congr (by rw [if_pos (.inl rfl)]) rfl fun o hc => ?_
    have hok := ho.ok o ((cur_iff ho.srt).1 hc).1
    unfold okRow at hok
    rw [if_neg (c := (5 : Int) = 1 ∧ o.state = 3) (fun x => absurd x.1 (by decide))]
    by_cases h1 : o.state = 1
    · have e : sameM 5 0 o = { o with state := 2 } := by unfold sameM; rw [if_pos ⟨rfl, h1⟩]
      rw [if_pos h1, e]
    · have e : sameM 5 0 o = o := by unfold sameM; rw [if_neg fun x => h1 x.2, if_neg fun x => h1 x.2, if_neg fun x => h1 x.2]
      rw [if_neg h1, e, setR_self ho hc]
      by_cases h2 : o.state = 2
      · rw [if_pos h2, h2]
      · rw [if_neg h2, show o.state = 3 by omega]
theorem kill_gen (ho : SOk N l) (tx attempt now : Int) : killM l tx attempt now = genM 6 l tx attempt 0 now := by
  unfold killM genM
  by_cases hb : ¬ rightB tx attempt now
  · rw [if_pos hb, if_pos (.inl hb)]
  · rw [if_neg hb, if_neg fun x => by rcases x with x | x; exact hb x; exact absurd x.1 (by decide)]
    refine byHow_congr (by rw [if_neg (by decide)]; rfl) rfl fun o hc => ?_
    have hok := ho.ok o ((cur_iff ho.srt).1 hc).1
    unfold okRow at hok
    rw [if_neg (c := (6 : Int) = 1 ∧ o.state = 3) (fun x => absurd x.1 (by decide))]
    by_cases h1 : o.state = 1
    · have e : sameM 6 now o = { o with state := 3 } := by unfold sameM; rw [if_neg (fun x => absurd x.1 (by decide)), if_pos ⟨rfl, h1⟩]
      rw [if_pos h1, e]
    · have e : sameM 6 now o = o := by unfold sameM; rw [if_neg fun x => h1 x.2, if_neg fun x => h1 x.2, if_neg fun x => h1 x.2]
      rw [if_neg h1, e, setR_self ho hc]
      by_cases h2 : o.state = 3
      · rw [if_pos h2, h2]
      · rw [if_neg h2, show o.state = 2 by omega]
theorem beat_gen (ho : SOk N l) (tx attempt now : Int) : beatM l tx attempt now = genM 8 l tx attempt 0 now := by
  unfold beatM genM
  by_cases hb : ¬ rightB tx attempt now
  · rw [if_pos hb, if_pos (.inl hb)]
  · rw [if_neg hb, if_neg fun x => by rcases x with x | x; exact hb x; exact absurd x.1 (by decide)]
    refine byHow_congr (by rw [if_pos (.inr rfl)]) rfl fun o hc => ?_
    rw [if_neg (c := (8 : Int) = 1 ∧ o.state = 3) (fun x => absurd x.1 (by decide))]
    by_cases h1 : o.state = 1
    · have e : sameM 8 now o = { o with heard := if now > o.heard then now else o.heard } := by unfold sameM; rw [if_neg (fun x => absurd x.1 (by decide)), if_neg (fun x => absurd x.1 (by decide)), if_pos ⟨rfl, h1⟩]
      rw [if_pos h1, e]
    · have e : sameM 8 now o = o := by unfold sameM; rw [if_neg fun x => h1 x.2, if_neg fun x => h1 x.2, if_neg fun x => h1 x.2]
      rw [if_neg h1, e, setR_self ho hc]
theorem same_tx (kind now : Int) (o : SRow) : (sameM kind now o).tx = o.tx ∧ (sameM kind now o).attempt = o.attempt ∧ (sameM kind now o).stamp = o.stamp := by
  unfold sameM
  split
  · exact ⟨rfl, rfl, rfl⟩
  · split
    · exact ⟨rfl, rfl, rfl⟩
    · split <;> exact ⟨rfl, rfl, rfl⟩
end
/-! ## All attempts -/
def firstM : List SRow → Int → Int
  | [], _ => 0
  | r :: L, x => if r.tx = x ∧ r.stamp > 0 then r.stamp else firstM L x
theorem firstM_app : ∀ (L : List SRow) (r : SRow) (x : Int), firstM (L ++ [r]) x = if firstM L x ≠ 0 then firstM L x else if r.tx = x ∧ r.stamp > 0 then r.stamp else 0
  | [], r, x => by simp [firstM]
  | a :: L, r, x => by
    have ih := firstM_app L r x
    show (if a.tx = x ∧ a.stamp > 0 then a.stamp else firstM (L ++ [r]) x) = (if (if a.tx = x ∧ a.stamp > 0 then a.stamp else firstM L x) ≠ 0 then (if a.tx = x ∧ a.stamp > 0 then a.stamp else firstM L x) else _)
    by_cases h : a.tx = x ∧ a.stamp > 0
    · rw [if_pos h, if_pos h, if_pos (by omega)]
    · rw [if_neg h, if_neg h, ih]
theorem firstM_set : ∀ (L : List SRow) (k : Nat) (hk : k < L.length) (r : SRow) (x : Int), r.tx = L[k].tx → r.stamp = L[k].stamp → firstM (L.set k r) x = firstM L x
  | a :: L, 0, _, r, x, h1, h2 => by
    show (if r.tx = x ∧ r.stamp > 0 then r.stamp else firstM L x) = (if a.tx = x ∧ a.stamp > 0 then a.stamp else firstM L x)
    have h1 : r.tx = a.tx := h1
    have h2 : r.stamp = a.stamp := h2
    rw [h1, h2]
  | a :: L, k + 1, hk, r, x, h1, h2 => by
    show (if a.tx = x ∧ a.stamp > 0 then a.stamp else firstM (L.set k r) x) = (if a.tx = x ∧ a.stamp > 0 then a.stamp else firstM L x)
    rw [firstM_set L k (by simpa using hk) r x h1 h2]
/-- The row of all attempts tells the rows. -/
structure RelS (l L : List SRow) : Prop where
  no : ∀ x, cur l x = none → ∀ r ∈ L, r.tx ≠ x
  has : ∀ x o, cur l x = some o → ∃ k, ∃ hk : k < L.length, L[k] = o ∧ ∀ i, (hi : i < L.length) → L[i].tx = x → i ≠ k → L[i].attempt < o.attempt
  first : ∀ x o, cur l x = some o → o.stamp = firstM L x
theorem firstM_none : ∀ (L : List SRow) (x : Int), (∀ r ∈ L, r.tx ≠ x) → firstM L x = 0
  | [], _, _ => rfl
  | a :: L, x, h => by
    show (if a.tx = x ∧ a.stamp > 0 then a.stamp else firstM L x) = 0
    rw [if_neg fun y => h a (List.mem_cons_self ..) y.1, firstM_none L x fun r hr => h r (List.mem_cons_of_mem _ hr)]
/-- Where the newest one is. -/
def Best (L : List SRow) (x : Int) (j : Nat) (b : Int) : Prop :=
  (b = -1 ∧ ∀ i, (hi : i < L.length) → i < j → L[i].tx ≠ x) ∨ ∃ k : Nat, ∃ hk : k < L.length, b = k ∧ k < j ∧ L[k].tx = x ∧ ∀ i, (hi : i < L.length) → i < j → L[i].tx = x → L[i].attempt ≤ L[k].attempt
section
variable {l L : List SRow} {N : Nat}
theorem RelS.bestN (h : RelS l L) {x b : Int} (hc : cur l x = none) (hb : Best L x L.length b) : b = -1 := by
  rcases hb with ⟨h1, _⟩ | ⟨k, hk, _, _, h2, _⟩
  · exact h1
  · exact absurd h2 (h.no x hc _ (List.getElem_mem hk))
theorem RelS.bestS (ho : SOk N l) (h : RelS l L) {x b : Int} {o : SRow} (hc : cur l x = some o) (hb : Best L x L.length b) : ∃ k : Nat, ∃ hk : k < L.length, b = k ∧ L[k] = o ∧ ∀ i, (hi : i < L.length) → L[i].tx = x → i ≠ k → L[i].attempt < o.attempt := by
  obtain ⟨k, hk, e, hmax⟩ := h.has x o hc
  have etx := ((cur_iff ho.srt).1 hc).2
  rcases hb with ⟨_, h2⟩ | ⟨k', hk', h1, h2, h3, h4⟩
  · exact absurd (by rw [e]; exact etx) (h2 k hk hk)
  · have hkk : k' = k := by
      apply Classical.byContradiction
      intro hne
      have a := hmax k' hk' h3 hne
      have b := h4 k hk hk (by rw [e]; exact etx)
      rw [e] at b
      omega
    subst hkk
    exact ⟨k', hk, h1, e, hmax⟩
/-- A newer attempt is told behind all. -/
theorem RelS.app (ho : SOk N l) (h : RelS l L) {l' : List SRow} {r : SRow} (hcur : ∀ x, cur l' x = if x = r.tx then some r else cur l x) (hnew : ∀ o, cur l r.tx = some o → o.attempt < r.attempt) (hst : r.stamp = if firstM L r.tx ≠ 0 then firstM L r.tx else if r.stamp > 0 then r.stamp else 0) (hs0 : 0 ≤ r.stamp) : RelS l' (L ++ [r]) := by
  have hlen : (L ++ [r]).length = L.length + 1 := by simp
  refine ⟨fun x hc q hq => ?_, fun x o hc => ?_, fun x o hc => ?_⟩
  · rw [hcur] at hc
    split at hc
    · cases hc
    · rename_i hne
      rcases List.mem_append.1 hq with hq | hq
      · exact h.no x hc q hq
      · rw [List.mem_singleton.1 hq]; exact fun e => hne e.symm
  · rw [hcur] at hc
    split at hc
    · rename_i e
      injection hc with hc
      subst hc
      refine ⟨L.length, by omega, by simp, fun i hi hix hik => ?_⟩
      have hil : i < L.length := by omega
      rw [List.getElem_append_left hil] at hix ⊢
      rw [e] at hix
      cases hc2 : cur l r.tx with
      | none => exact absurd hix (h.no _ hc2 _ (List.getElem_mem hil))
      | some o =>
        obtain ⟨k, hk, e2, hmax⟩ := h.has _ o hc2
        have hlt := hnew o hc2
        by_cases hk2 : i = k
        · subst hk2; rw [e2]; exact hlt
        · have := hmax i hil hix hk2; omega
    · rename_i hne
      obtain ⟨k, hk, e2, hmax⟩ := h.has x o hc
      refine ⟨k, by omega, by rw [List.getElem_append_left hk]; exact e2, fun i hi hix hik => ?_⟩
      by_cases hil : i < L.length
      · rw [List.getElem_append_left hil] at hix ⊢
        exact hmax i hil hix hik
      · have : i = L.length := by omega
        subst this
        simp at hix
        exact absurd hix.symm hne
  · rw [hcur] at hc
    rw [firstM_app]
    split at hc
    · rename_i e
      injection hc with hc
      subst hc
      rw [e]
      simp only [true_and]
      exact hst
    · rename_i hne
      have := h.first x o hc
      rw [if_neg (c := r.tx = x ∧ r.stamp > 0) fun y => hne y.1.symm, this]
      split
      · rfl
      · rename_i h0; exact Decidable.not_not.1 h0
theorem RelS.upd (ho : SOk N l) (h : RelS l L) {r o : SRow} (hc : cur l r.tx = some o) (ha : r.attempt = o.attempt) (ht : r.stamp = o.stamp) {k : Nat} (hk : k < L.length) (e : L[k] = o) : RelS (setR l r) (L.set k r) := by
  have hcur := cur_set (r := r) ho.srt hc
  have etx := ((cur_iff ho.srt).1 hc).2
  have hg : ∀ i, (hi : i < L.length) → ((L.set k r)[i]'(by rw [List.length_set]; exact hi)).tx = L[i].tx ∧ ((L.set k r)[i]'(by rw [List.length_set]; exact hi)).attempt = L[i].attempt := fun i hi => by
    rw [List.getElem_set]
    split
    · rename_i hki; subst hki; rw [e]; exact ⟨etx.symm, ha⟩
    · exact ⟨rfl, rfl⟩
  refine ⟨fun x hc2 q hq => ?_, fun x p hc2 => ?_, fun x p hc2 => ?_⟩
  · rw [hcur] at hc2
    split at hc2
    · cases hc2
    · obtain ⟨i, hi, rfl⟩ := List.getElem_of_mem hq
      rw [List.length_set] at hi
      rw [(hg i hi).1]
      exact h.no x hc2 _ (List.getElem_mem hi)
  · rw [hcur] at hc2
    split at hc2
    · rename_i ex
      injection hc2 with hc2
      subst hc2
      obtain ⟨k', hk', e', hmax⟩ := h.has _ o hc
      have hkk : k = k' := by
        apply Classical.byContradiction
        intro hne
        have := hmax k hk (by rw [e]; exact etx) hne
        rw [e] at this
        omega
      subst hkk
      refine ⟨k, by rw [List.length_set]; exact hk, by rw [List.getElem_set, if_pos rfl], fun i hi hix hik => ?_⟩
      rw [List.length_set] at hi
      rw [(hg i hi).1, ex] at hix
      rw [(hg i hi).2, ha]
      exact hmax i hi hix hik
    · rename_i hne
      obtain ⟨k', hk', e', hmax⟩ := h.has x p hc2
      have hkk : k ≠ k' := fun hkk => by
        subst hkk
        rw [e] at e'
        subst e'
        have := ((cur_iff ho.srt).1 hc2).2
        exact hne (by rw [← this, etx])
      refine ⟨k', by rw [List.length_set]; exact hk', by rw [List.getElem_set, if_neg hkk]; exact e', fun i hi hix hik => ?_⟩
      rw [List.length_set] at hi
      rw [(hg i hi).1] at hix
      rw [(hg i hi).2]
      exact hmax i hi hix hik
  · have hf : firstM (L.set k r) x = firstM L x := firstM_set L k hk r x (by rw [e]; exact etx.symm) (by rw [e]; exact ht)
    rw [hf]
    rw [hcur] at hc2
    split at hc2
    · rename_i ex
      injection hc2 with hc2
      subst hc2
      rw [ex, ht]
      exact h.first _ o hc
    · exact h.first x p hc2
end
/-! ## Contracts -/
section
variable {h0 h : Heap} {F : List Res} {d : Nat} {ty : TypeId} {s : Sl} {l L : List SRow} {N : Nat}
theorem ref16_newest_ok {x : Int} {R : Int → Heap → Prop} (H : At h0 h (tabL d ty s L ++ F)) (hlen : L.length ≤ 100000) (hR : ∀ b h', Best L x L.length b → At h0 h' (tabL d ty s L ++ F) → R b h') : C_ref16_All_newest (some ⟨d, 0, none⟩) x h R := by
  refine A_ref16_All_newest ?_
  unfold S_ref16_All_newest
  have hsn := H.n 1 rfl
  refine let_ ?_
  repeat (first | with_reducible refine nn ?_ | with_reducible refine let_ ?_ | with_reducible refine brSome ?_ | with_reducible refine brF ?_ | with_reducible refine brT ?_ | ((with_reducible apply ldAt H 0); exact rfl; exact rfl) | ((with_reducible apply ldAt0 H 0); exact rfl; exact rfl) | ((with_reducible apply stAt H 0); exact rfl; exact rfl; intro h H) | ((with_reducible apply stAt0 H 0); exact rfl; exact rfl; intro h H) | ((with_reducible apply allocAt H); intro h b H) | ((with_reducible refine ⟨?_, ?_⟩); first | ((with_reducible apply ldAt H 0); exact rfl; exact rfl; exact rfl) | ((with_reducible apply ldAt0 H 0); exact rfl; exact rfl; exact rfl)))
  refine loop2 (s1 := .one (.int .i64)) (s2 := .one (.int .i64)) (fun (b y : Int) h1 => ∃ j : Nat, y = j ∧ j ≤ L.length ∧ Best L x j b ∧ At h0 h1 (tabL d ty s L ++ F)) (fun _ (y : Int) _ => (L.length - y).toNat)
    ⟨0, rfl, Nat.zero_le _, .inl ⟨rfl, fun i _ hi => absurd hi (Nat.not_lt_zero _)⟩, H⟩ fun _ (q y : Int) h1 hI => ?_
  obtain ⟨j, rfl, hj, hB, H⟩ := hI
  refine brD (fun hc => ?_) fun hc => ?_
  · have hj2 : j < L.length := by omega
    refine ixAt H 1 rfl j rfl hj2 fun e he => ?_
    repeat (first | with_reducible refine nn ?_ | with_reducible refine let_ ?_ | with_reducible refine brSome ?_ | with_reducible refine brF ?_ | with_reducible refine brT ?_ | ((with_reducible apply ldAt H 0); exact rfl; exact rfl) | ((with_reducible apply ldAt0 H 0); exact rfl; exact rfl) | ((with_reducible apply ldAt H 1); exact rfl; exact rfl) | ((with_reducible apply ldAt0 H 1); exact rfl; exact rfl) | ((with_reducible apply ldEl H 0); exact rfl; assumption; (case hk => assumption); exact rfl) | ((with_reducible apply ldEl0 H 0); exact rfl; assumption; (case hk => assumption); exact rfl) | ((with_reducible apply ldElS H 0); exact rfl; assumption; (case hk => assumption); exact rfl) | ((with_reducible apply ldElS0 H 0); exact rfl; assumption; (case hk => assumption); exact rfl) | ((with_reducible apply ldEl H 1); exact rfl; assumption; (case hk => assumption); exact rfl) | ((with_reducible apply ldEl0 H 1); exact rfl; assumption; (case hk => assumption); exact rfl) | ((with_reducible apply ldElS H 1); exact rfl; assumption; (case hk => assumption); exact rfl) | ((with_reducible apply ldElS0 H 1); exact rfl; assumption; (case hk => assumption); exact rfl) | ((with_reducible apply stAt H 0); exact rfl; exact rfl; intro h H) | ((with_reducible apply stAt0 H 0); exact rfl; exact rfl; intro h H) | ((with_reducible apply stAt H 1); exact rfl; exact rfl; intro h H) | ((with_reducible apply stAt0 H 1); exact rfl; exact rfl; intro h H) | ((with_reducible apply stElS (E := eRow) ⟨_, _, _, _, _⟩ H 0); exact rfl; assumption; (case hk => assumption); exact rfl; (first | exact rfl | (dsimp only [eRow, List.set_cons_succ, List.set_cons_zero] <;> exact rfl)); intro h H) | ((with_reducible apply stElS0 (E := eRow) ⟨_, _, _, _, _⟩ H 0); exact rfl; assumption; (case hk => assumption); (first | exact rfl | (dsimp only [eRow, List.set_cons_succ, List.set_cons_zero] <;> exact rfl)); intro h H) | ((with_reducible apply stEl (E := eRow) ⟨_, _, _, _, _⟩ H 0); exact rfl; assumption; (case hk => assumption); exact rfl; (first | exact rfl | (dsimp only [eRow, List.set_cons_succ, List.set_cons_zero] <;> exact rfl)); intro h H) | ((with_reducible apply stEl0 (E := eRow) ⟨_, _, _, _, _⟩ H 0); exact rfl; assumption; (case hk => assumption); (first | exact rfl | (dsimp only [eRow, List.set_cons_succ, List.set_cons_zero] <;> exact rfl)); intro h H) | ((with_reducible apply stElS (E := eRow) ⟨_, _, _, _, _⟩ H 1); exact rfl; assumption; (case hk => assumption); exact rfl; (first | exact rfl | (dsimp only [eRow, List.set_cons_succ, List.set_cons_zero] <;> exact rfl)); intro h H) | ((with_reducible apply stElS0 (E := eRow) ⟨_, _, _, _, _⟩ H 1); exact rfl; assumption; (case hk => assumption); (first | exact rfl | (dsimp only [eRow, List.set_cons_succ, List.set_cons_zero] <;> exact rfl)); intro h H) | ((with_reducible apply stEl (E := eRow) ⟨_, _, _, _, _⟩ H 1); exact rfl; assumption; (case hk => assumption); exact rfl; (first | exact rfl | (dsimp only [eRow, List.set_cons_succ, List.set_cons_zero] <;> exact rfl)); intro h H) | ((with_reducible apply stEl0 (E := eRow) ⟨_, _, _, _, _⟩ H 1); exact rfl; assumption; (case hk => assumption); (first | exact rfl | (dsimp only [eRow, List.set_cons_succ, List.set_cons_zero] <;> exact rfl)); intro h H) | ((with_reducible apply allocAt H); intro h b H) | ((with_reducible refine ⟨?_, ?_⟩); first | ((with_reducible apply ldAt H 0); exact rfl; exact rfl; exact rfl) | ((with_reducible apply ldAt0 H 0); exact rfl; exact rfl; exact rfl) | ((with_reducible apply ldAt H 1); exact rfl; exact rfl; exact rfl) | ((with_reducible apply ldAt0 H 1); exact rfl; exact rfl; exact rfl) | ((with_reducible apply ldEl H 0); exact rfl; assumption; (case hk => assumption); exact rfl; exact rfl) | ((with_reducible apply ldEl0 H 0); exact rfl; assumption; (case hk => assumption); exact rfl; exact rfl) | ((with_reducible apply ldElS H 0); exact rfl; assumption; (case hk => assumption); exact rfl; exact rfl) | ((with_reducible apply ldElS0 H 0); exact rfl; assumption; (case hk => assumption); exact rfl; exact rfl) | ((with_reducible apply ldEl H 1); exact rfl; assumption; (case hk => assumption); exact rfl; exact rfl) | ((with_reducible apply ldEl0 H 1); exact rfl; assumption; (case hk => assumption); exact rfl; exact rfl) | ((with_reducible apply ldElS H 1); exact rfl; assumption; (case hk => assumption); exact rfl; exact rfl) | ((with_reducible apply ldElS0 H 1); exact rfl; assumption; (case hk => assumption); exact rfl; exact rfl)))
    have next : ∀ b', Best L x (j + 1) b' → (∃ j_1 : Nat, IntKind.i64.wrap ((j : Int) + 1) = j_1 ∧ j_1 ≤ L.length ∧ Best L x j_1 b' ∧ At h0 h (tabL d ty s L ++ F)) ∧ ((L.length : Int) - IntKind.i64.wrap ((j : Int) + 1)).toNat < ((L.length : Int) - (j : Int)).toNat := fun b' hb' => by
      rw [w64 (by omega) (by omega)]
      exact ⟨⟨j + 1, by omega, by omega, hb', H.tail⟩, by omega⟩
    refine br beq_iff_eq (fun htx => ?_) fun htx => next q ?_
    · rcases hB with ⟨rfl, hno⟩ | ⟨k, hk, rfl, hkj, hkx, hmax⟩
      · refine brY rfl (next _ (.inr ⟨j, hj2, rfl, by omega, htx, fun i hi hij hix => ?_⟩))
        by_cases e : i = j
        · subst e; exact Int.le_refl _
        · exact absurd hix (hno i hi (by omega))
      · refine brN (decide_eq_false (by omega)) ?_
        repeat (first | with_reducible refine nn ?_ | with_reducible refine let_ ?_ | with_reducible refine brSome ?_ | with_reducible refine brF ?_ | with_reducible refine brT ?_ | ((with_reducible apply ldAt H 0); exact rfl; exact rfl) | ((with_reducible apply ldAt0 H 0); exact rfl; exact rfl) | ((with_reducible apply ldAt H 1); exact rfl; exact rfl) | ((with_reducible apply ldAt0 H 1); exact rfl; exact rfl) | ((with_reducible apply stAt H 0); exact rfl; exact rfl; intro h H) | ((with_reducible apply stAt0 H 0); exact rfl; exact rfl; intro h H) | ((with_reducible apply stAt H 1); exact rfl; exact rfl; intro h H) | ((with_reducible apply stAt0 H 1); exact rfl; exact rfl; intro h H) | ((with_reducible apply allocAt H); intro h b H) | ((with_reducible refine ⟨?_, ?_⟩); first | ((with_reducible apply ldAt H 0); exact rfl; exact rfl; exact rfl) | ((with_reducible apply ldAt0 H 0); exact rfl; exact rfl; exact rfl) | ((with_reducible apply ldAt H 1); exact rfl; exact rfl; exact rfl) | ((with_reducible apply ldAt0 H 1); exact rfl; exact rfl; exact rfl)))
        refine ixAt H 2 rfl k rfl hk fun e he => ?_
        refine ldEl (j := 1) H 2 rfl he hk L[k].attempt rfl ?_
        refine brD (fun hgt => next _ (.inr ⟨j, hj2, rfl, by omega, htx, fun i hi hij hix => ?_⟩)) fun hle => next _ (.inr ⟨k, hk, rfl, by omega, hkx, fun i hi hij hix => ?_⟩)
        · by_cases e : i = j
          · subst e; exact Int.le_refl _
          · have := hmax i hi (by omega) hix; omega
        · by_cases e : i = j
          · subst e; omega
          · exact hmax i hi (by omega) hix
    · rcases hB with ⟨rfl, hno⟩ | ⟨k, hk, rfl, hkj, hkx, hmax⟩
      · refine .inl ⟨rfl, fun i hi hij => ?_⟩
        by_cases e : i = j
        · subst e; exact htx
        · exact hno i hi (by omega)
      · refine .inr ⟨k, hk, rfl, by omega, hkx, fun i hi hij hix => ?_⟩
        by_cases e : i = j
        · subst e; exact absurd hix htx
        · exact hmax i hi (by omega) hix
  · have hjl : j = L.length := by omega
    subst hjl
    exact hR q _ hB H
theorem ref16_first_ok {x : Int} {R : Int → Heap → Prop} (H : At h0 h (tabL d ty s L ++ F)) (hlen : L.length ≤ 100000) (hR : ∀ h', At h0 h' (tabL d ty s L ++ F) → R (firstM L x) h') : C_ref16_All_first (some ⟨d, 0, none⟩) x h R := by
  refine A_ref16_All_first ?_
  unfold S_ref16_All_first
  have hsn := H.n 1 rfl
  repeat (first | with_reducible refine nn ?_ | with_reducible refine let_ ?_ | with_reducible refine brSome ?_ | with_reducible refine brF ?_ | with_reducible refine brT ?_ | ((with_reducible apply ldAt H 0); exact rfl; exact rfl) | ((with_reducible apply ldAt0 H 0); exact rfl; exact rfl) | ((with_reducible apply stAt H 0); exact rfl; exact rfl; intro h H) | ((with_reducible apply stAt0 H 0); exact rfl; exact rfl; intro h H) | ((with_reducible apply allocAt H); intro h b H) | ((with_reducible refine ⟨?_, ?_⟩); first | ((with_reducible apply ldAt H 0); exact rfl; exact rfl; exact rfl) | ((with_reducible apply ldAt0 H 0); exact rfl; exact rfl; exact rfl)))
  refine loop1 (s1 := .one (.int .i64)) (fun (y : Int) h1 => ∃ j : Nat, y = j ∧ j ≤ L.length ∧ firstM L x = firstM (L.drop j) x ∧ At h0 h1 (tabL d ty s L ++ F)) (fun (y : Int) _ => (L.length - y).toNat)
    ⟨0, rfl, Nat.zero_le _, rfl, H⟩ fun _ (y : Int) h1 hI => ?_
  obtain ⟨j, rfl, hj, hf, H⟩ := hI
  refine brD (fun hc => ?_) fun hc => ?_
  · have hj2 : j < L.length := by omega
    rw [List.drop_eq_getElem_cons hj2] at hf
    have hf : firstM L x = if L[j].tx = x ∧ L[j].stamp > 0 then L[j].stamp else firstM (L.drop (j + 1)) x := hf
    refine ixAt H 1 rfl j rfl hj2 fun e he => ?_
    repeat (first | with_reducible refine nn ?_ | with_reducible refine let_ ?_ | with_reducible refine brSome ?_ | with_reducible refine brF ?_ | with_reducible refine brT ?_ | ((with_reducible apply ldAt H 0); exact rfl; exact rfl) | ((with_reducible apply ldAt0 H 0); exact rfl; exact rfl) | ((with_reducible apply ldAt H 1); exact rfl; exact rfl) | ((with_reducible apply ldAt0 H 1); exact rfl; exact rfl) | ((with_reducible apply ldEl H 0); exact rfl; assumption; (case hk => assumption); exact rfl) | ((with_reducible apply ldEl0 H 0); exact rfl; assumption; (case hk => assumption); exact rfl) | ((with_reducible apply ldElS H 0); exact rfl; assumption; (case hk => assumption); exact rfl) | ((with_reducible apply ldElS0 H 0); exact rfl; assumption; (case hk => assumption); exact rfl) | ((with_reducible apply ldEl H 1); exact rfl; assumption; (case hk => assumption); exact rfl) | ((with_reducible apply ldEl0 H 1); exact rfl; assumption; (case hk => assumption); exact rfl) | ((with_reducible apply ldElS H 1); exact rfl; assumption; (case hk => assumption); exact rfl) | ((with_reducible apply ldElS0 H 1); exact rfl; assumption; (case hk => assumption); exact rfl) | ((with_reducible apply stAt H 0); exact rfl; exact rfl; intro h H) | ((with_reducible apply stAt0 H 0); exact rfl; exact rfl; intro h H) | ((with_reducible apply stAt H 1); exact rfl; exact rfl; intro h H) | ((with_reducible apply stAt0 H 1); exact rfl; exact rfl; intro h H) | ((with_reducible apply stElS (E := eRow) ⟨_, _, _, _, _⟩ H 0); exact rfl; assumption; (case hk => assumption); exact rfl; (first | exact rfl | (dsimp only [eRow, List.set_cons_succ, List.set_cons_zero] <;> exact rfl)); intro h H) | ((with_reducible apply stElS0 (E := eRow) ⟨_, _, _, _, _⟩ H 0); exact rfl; assumption; (case hk => assumption); (first | exact rfl | (dsimp only [eRow, List.set_cons_succ, List.set_cons_zero] <;> exact rfl)); intro h H) | ((with_reducible apply stEl (E := eRow) ⟨_, _, _, _, _⟩ H 0); exact rfl; assumption; (case hk => assumption); exact rfl; (first | exact rfl | (dsimp only [eRow, List.set_cons_succ, List.set_cons_zero] <;> exact rfl)); intro h H) | ((with_reducible apply stEl0 (E := eRow) ⟨_, _, _, _, _⟩ H 0); exact rfl; assumption; (case hk => assumption); (first | exact rfl | (dsimp only [eRow, List.set_cons_succ, List.set_cons_zero] <;> exact rfl)); intro h H) | ((with_reducible apply stElS (E := eRow) ⟨_, _, _, _, _⟩ H 1); exact rfl; assumption; (case hk => assumption); exact rfl; (first | exact rfl | (dsimp only [eRow, List.set_cons_succ, List.set_cons_zero] <;> exact rfl)); intro h H) | ((with_reducible apply stElS0 (E := eRow) ⟨_, _, _, _, _⟩ H 1); exact rfl; assumption; (case hk => assumption); (first | exact rfl | (dsimp only [eRow, List.set_cons_succ, List.set_cons_zero] <;> exact rfl)); intro h H) | ((with_reducible apply stEl (E := eRow) ⟨_, _, _, _, _⟩ H 1); exact rfl; assumption; (case hk => assumption); exact rfl; (first | exact rfl | (dsimp only [eRow, List.set_cons_succ, List.set_cons_zero] <;> exact rfl)); intro h H) | ((with_reducible apply stEl0 (E := eRow) ⟨_, _, _, _, _⟩ H 1); exact rfl; assumption; (case hk => assumption); (first | exact rfl | (dsimp only [eRow, List.set_cons_succ, List.set_cons_zero] <;> exact rfl)); intro h H) | ((with_reducible apply allocAt H); intro h b H) | ((with_reducible refine ⟨?_, ?_⟩); first | ((with_reducible apply ldAt H 0); exact rfl; exact rfl; exact rfl) | ((with_reducible apply ldAt0 H 0); exact rfl; exact rfl; exact rfl) | ((with_reducible apply ldAt H 1); exact rfl; exact rfl; exact rfl) | ((with_reducible apply ldAt0 H 1); exact rfl; exact rfl; exact rfl) | ((with_reducible apply ldEl H 0); exact rfl; assumption; (case hk => assumption); exact rfl; exact rfl) | ((with_reducible apply ldEl0 H 0); exact rfl; assumption; (case hk => assumption); exact rfl; exact rfl) | ((with_reducible apply ldElS H 0); exact rfl; assumption; (case hk => assumption); exact rfl; exact rfl) | ((with_reducible apply ldElS0 H 0); exact rfl; assumption; (case hk => assumption); exact rfl; exact rfl) | ((with_reducible apply ldEl H 1); exact rfl; assumption; (case hk => assumption); exact rfl; exact rfl) | ((with_reducible apply ldEl0 H 1); exact rfl; assumption; (case hk => assumption); exact rfl; exact rfl) | ((with_reducible apply ldElS H 1); exact rfl; assumption; (case hk => assumption); exact rfl; exact rfl) | ((with_reducible apply ldElS0 H 1); exact rfl; assumption; (case hk => assumption); exact rfl; exact rfl)))
    have next : ¬ (L[j].tx = x ∧ L[j].stamp > 0) → (∃ j_1 : Nat, IntKind.i64.wrap ((j : Int) + 1) = j_1 ∧ j_1 ≤ L.length ∧ firstM L x = firstM (L.drop j_1) x ∧ At h0 h (tabL d ty s L ++ F)) ∧ ((L.length : Int) - IntKind.i64.wrap ((j : Int) + 1)).toNat < ((L.length : Int) - (j : Int)).toNat := fun hn => by
      rw [if_neg hn] at hf
      rw [w64 (by omega) (by omega)]
      exact ⟨⟨j + 1, by omega, by omega, hf, H.tail⟩, by omega⟩
    refine br beq_iff_eq (fun htx => ?_) fun htx => next fun y => htx y.1
    repeat (first | with_reducible refine nn ?_ | with_reducible refine let_ ?_ | with_reducible refine brSome ?_ | with_reducible refine brF ?_ | with_reducible refine brT ?_ | ((with_reducible apply ldAt H 0); exact rfl; exact rfl) | ((with_reducible apply ldAt0 H 0); exact rfl; exact rfl) | ((with_reducible apply stAt H 0); exact rfl; exact rfl; intro h H) | ((with_reducible apply stAt0 H 0); exact rfl; exact rfl; intro h H) | ((with_reducible apply allocAt H); intro h b H) | ((with_reducible refine ⟨?_, ?_⟩); first | ((with_reducible apply ldAt H 0); exact rfl; exact rfl; exact rfl) | ((with_reducible apply ldAt0 H 0); exact rfl; exact rfl; exact rfl)))
    refine brD (fun hp => ?_) fun hp => next fun y => hp y.2
    repeat (first | with_reducible refine nn ?_ | with_reducible refine let_ ?_ | with_reducible refine brSome ?_ | with_reducible refine brF ?_ | with_reducible refine brT ?_ | ((with_reducible apply ldAt H 0); exact rfl; exact rfl) | ((with_reducible apply ldAt0 H 0); exact rfl; exact rfl) | ((with_reducible apply stAt H 0); exact rfl; exact rfl; intro h H) | ((with_reducible apply stAt0 H 0); exact rfl; exact rfl; intro h H) | ((with_reducible apply allocAt H); intro h b H) | ((with_reducible refine ⟨?_, ?_⟩); first | ((with_reducible apply ldAt H 0); exact rfl; exact rfl; exact rfl) | ((with_reducible apply ldAt0 H 0); exact rfl; exact rfl; exact rfl)))
    rw [if_pos ⟨htx, hp⟩] at hf
    have := hR _ H.tail
    rw [hf] at this
    exact this
  · have hjl : j = L.length := by omega
    subst hjl
    rw [List.drop_length] at hf
    have := hR _ H
    rw [hf] at this
    exact this
theorem ref16_right_ok {tx attempt now : Int} {R : Bool → Heap → Prop} (hR : R (decide (rightB tx attempt now)) h) : C_ref16_right tx attempt now h R := by
  refine A_ref16_right ?_
  unfold S_ref16_right
  unfold rightB at hR
  have no : ¬ (0 ≤ tx ∧ tx ≤ 1048576 ∧ 0 ≤ attempt ∧ attempt ≤ 1048576 ∧ 0 ≤ now ∧ now ≤ 1099511627776) → R false h := fun hn => by rw [decide_eq_false hn] at hR; exact hR
  refine brD (fun h1 => ?_) fun h1 => no (by omega)
  refine brD (fun h2 => ?_) fun h2 => no (by omega)
  refine brD (fun h3 => ?_) fun h3 => no (by omega)
  refine brD (fun h4 => ?_) fun h4 => no (by omega)
  refine brD (fun h5 => ?_) fun h5 => no (by omega)
  have e : decide (now ≤ 1099511627776) = decide (0 ≤ tx ∧ tx ≤ 1048576 ∧ 0 ≤ attempt ∧ attempt ≤ 1048576 ∧ 0 ≤ now ∧ now ≤ 1099511627776) := by
    rw [decide_eq_decide]
    exact ⟨fun h => ⟨h1, h2, h3, h4, h5, h⟩, fun h => h.2.2.2.2.2⟩
  rw [e]; exact hR
theorem ref16_State_ok {tx attempt : Int} {R : Int → Heap → Prop} (H : At h0 h (tabL d ty s L ++ F)) (hlen : L.length ≤ 100000) (ho : SOk N l) (hr : RelS l L) (hR : ∀ h', At h0 h' (tabL d ty s L ++ F) → R (stateM l tx attempt) h') : C_ref16_All_State (some ⟨d, 0, none⟩) tx attempt h R := by
  refine A_ref16_All_State ?_
  unfold S_ref16_All_State
  refine ref16_newest_ok H hlen fun b h' hB H => ?_
  cases hc : cur l tx with
  | none =>
    have hb := hr.bestN hc hB
    subst hb
    rw [stateM_none hc] at hR
    refine join1 (s1 := .one .bool) (fun (q : Bool) h1 => q = true ∧ h1 = h') (fun _ (q : Bool) h1 hJ => ?_) (brY rfl ⟨rfl, rfl⟩)
    obtain ⟨rfl, rfl⟩ := hJ
    exact brT (hR _ H)
  | some o =>
    obtain ⟨k, hk, rfl, e, _⟩ := hr.bestS ho hc hB
    rw [stateM_some hc] at hR
    refine join1 (s1 := .one .bool) (fun (q : Bool) h1 => (q = true ↔ attempt > o.attempt) ∧ h1 = h') (fun _ (q : Bool) h1 hJ => ?_) ?_
    · obtain ⟨hq, rfl⟩ := hJ
      refine brB (fun hqt => ?_) fun hqf => ?_
      · rw [if_pos (hq.1 hqt)] at hR; exact hR _ H
      · have hn : ¬ attempt > o.attempt := fun x => by rw [hq.2 x] at hqf; cases hqf
        rw [if_neg hn] at hR
        repeat (first | with_reducible refine nn ?_ | with_reducible refine let_ ?_ | with_reducible refine brSome ?_ | with_reducible refine brF ?_ | with_reducible refine brT ?_ | ((with_reducible apply ldAt H 0); exact rfl; exact rfl) | ((with_reducible apply ldAt0 H 0); exact rfl; exact rfl) | ((with_reducible apply stAt H 0); exact rfl; exact rfl; intro h H) | ((with_reducible apply stAt0 H 0); exact rfl; exact rfl; intro h H) | ((with_reducible apply allocAt H); intro h b H) | ((with_reducible refine ⟨?_, ?_⟩); first | ((with_reducible apply ldAt H 0); exact rfl; exact rfl; exact rfl) | ((with_reducible apply ldAt0 H 0); exact rfl; exact rfl; exact rfl)))
        refine ixAt H 1 rfl k rfl hk fun e1 he => ?_
        refine ldEl (j := 1) H 1 rfl he hk o.attempt (by rw [e]; rfl) ?_
        refine brD (fun hlt => ?_) fun hlt => ?_
        · rw [if_pos hlt] at hR; exact hR _ H
        · rw [if_neg hlt] at hR
          repeat (first | with_reducible refine nn ?_ | with_reducible refine let_ ?_ | with_reducible refine brSome ?_ | with_reducible refine brF ?_ | with_reducible refine brT ?_ | ((with_reducible apply ldAt H 0); exact rfl; exact rfl) | ((with_reducible apply ldAt0 H 0); exact rfl; exact rfl) | ((with_reducible apply stAt H 0); exact rfl; exact rfl; intro h H) | ((with_reducible apply stAt0 H 0); exact rfl; exact rfl; intro h H) | ((with_reducible apply allocAt H); intro h b H) | ((with_reducible refine ⟨?_, ?_⟩); first | ((with_reducible apply ldAt H 0); exact rfl; exact rfl; exact rfl) | ((with_reducible apply ldAt0 H 0); exact rfl; exact rfl; exact rfl)))
          refine ixAt H 1 rfl k rfl hk fun e1 he => ?_
          refine ldEl (j := 3) H 1 rfl he hk o.state (by rw [e]; rfl) ?_
          exact hR _ H
    · refine brN (decide_eq_false (by omega)) ?_
      repeat (first | with_reducible refine nn ?_ | with_reducible refine let_ ?_ | with_reducible refine brSome ?_ | with_reducible refine brF ?_ | with_reducible refine brT ?_ | ((with_reducible apply ldAt H 0); exact rfl; exact rfl) | ((with_reducible apply ldAt0 H 0); exact rfl; exact rfl) | ((with_reducible apply stAt H 0); exact rfl; exact rfl; intro h H) | ((with_reducible apply stAt0 H 0); exact rfl; exact rfl; intro h H) | ((with_reducible apply allocAt H); intro h b H) | ((with_reducible refine ⟨?_, ?_⟩); first | ((with_reducible apply ldAt H 0); exact rfl; exact rfl; exact rfl) | ((with_reducible apply ldAt0 H 0); exact rfl; exact rfl; exact rfl)))
      refine ixAt H 1 rfl k rfl hk fun e1 he => ?_
      refine ldEl (j := 1) H 1 rfl he hk o.attempt (by rw [e]; rfl) ?_
      exact ⟨decide_eq_true_iff, rfl⟩
theorem ref16_newer_ok {kind tx attempt stamp now : Int} {R : Int → Int → Heap → Prop} (H : At h0 h (tabL d ty s L ++ F)) (hlen : L.length ≤ 100000) (ho : SOk N l) (hr : RelS l L) (hst : 0 ≤ stamp) (hk1 : kind = 1 → 1 ≤ stamp) (hk : kind = 1 ∨ kind = 5 ∨ kind = 6 ∨ kind = 8) (hnew : ∀ o, cur l tx = some o → o.attempt < attempt)
    (hR : ∀ (res : List SRow × Int × Int), res = (if kind = 5 ∨ kind = 8 then (l, 0, 6) else putM l ⟨tx, attempt, if kind = 1 then stamp else 0, if kind = 1 then 1 else 3, now⟩) → ∀ h' s' L', At h0 h' (tabL d ty s' L' ++ F) → L'.length ≤ L.length + 1 → RelS res.1 L' → R res.2.1 res.2.2 h') : C_ref16_All_newer (some ⟨d, 0, none⟩) kind tx attempt stamp now h R := by
  refine A_ref16_All_newer ?_
  unfold S_ref16_All_newer
  refine join1 (s1 := .one .bool) (fun (q : Bool) h1 => (q = true ↔ (kind = 5 ∨ kind = 8)) ∧ h1 = h) (fun _ (q : Bool) h1 hJ => ?_) ?_
  rotate_left
  · refine br beq_iff_eq (fun h5 => ⟨⟨fun _ => .inl h5, fun _ => rfl⟩, rfl⟩) fun h5 => ⟨?_, rfl⟩
    rw [beq_iff_eq]
    exact ⟨.inr, fun x => x.resolve_left h5⟩
  obtain ⟨hq, rfl⟩ := hJ
  refine brB (fun hqt => ?_) fun hqf => ?_
  · have := hR _ rfl _ s L H (by omega) (by rw [if_pos (hq.1 hqt)]; exact hr)
    rw [if_pos (hq.1 hqt)] at this
    exact this
  have hn58 : ¬ (kind = 5 ∨ kind = 8) := fun x => by rw [hq.2 x] at hqf; cases hqf
  have hR := hR _ rfl
  rw [if_neg hn58] at hR
  have hfree : ∀ {h' : Heap} {M : Int}, M = M := fun {_ _} => rfl
  refine ref16_newest_ok H hlen fun b h2 hB H => ?_
  refine join1 (s1 := .one .bool) (fun (q : Bool) h1 => (q = true ↔ ∃ o, cur l tx = some o ∧ o.state ≠ 3) ∧ h1 = h2) (fun _ (q : Bool) h1 hJ => ?_) ?_
  rotate_left
  · cases hc : cur l tx with
    | none =>
      have hb := hr.bestN hc hB
      subst hb
      exact brN rfl ⟨⟨fun x => by (cases x), fun ⟨o, x, _⟩ => by cases x⟩, rfl⟩
    | some o =>
      obtain ⟨k, hk, rfl, e, _⟩ := hr.bestS ho hc hB
      refine brY (decide_eq_true (by omega)) ?_
      repeat (first | with_reducible refine nn ?_ | with_reducible refine let_ ?_ | with_reducible refine brSome ?_ | with_reducible refine brF ?_ | with_reducible refine brT ?_ | ((with_reducible apply ldAt H 0); exact rfl; exact rfl) | ((with_reducible apply ldAt0 H 0); exact rfl; exact rfl) | ((with_reducible apply stAt H 0); exact rfl; exact rfl; intro h H) | ((with_reducible apply stAt0 H 0); exact rfl; exact rfl; intro h H) | ((with_reducible apply allocAt H); intro h b H) | ((with_reducible refine ⟨?_, ?_⟩); first | ((with_reducible apply ldAt H 0); exact rfl; exact rfl; exact rfl) | ((with_reducible apply ldAt0 H 0); exact rfl; exact rfl; exact rfl)))
      refine ixAt H 1 rfl k rfl hk fun e1 he => ?_
      refine ldEl (j := 3) H 1 rfl he hk o.state (by rw [e]; rfl) ?_
      refine ⟨?_, rfl⟩
      rw [bne_iff_ne]
      exact ⟨fun x => ⟨o, rfl, x⟩, fun ⟨o', x, y⟩ => by injection x with x; rw [x]; exact y⟩
  obtain ⟨hq2, rfl⟩ := hJ
  refine brB (fun hqt => ?_) fun hqf2 => ?_
  · obtain ⟨o, hc, h3⟩ := hq2.1 hqt
    rw [putM_some (r := ⟨tx, attempt, if kind = 1 then stamp else 0, if kind = 1 then 1 else 3, now⟩) hc, if_pos h3] at hR
    exact hR _ s L H (by omega) hr
  have h3 : ∀ o, cur l tx = some o → o.state = 3 := fun o hc => Classical.byContradiction fun x => by rw [hq2.2 ⟨o, hc, x⟩] at hqf2; cases hqf2
  refine ref16_first_ok H hlen fun h3' H => ?_
  refine join1 (s1 := .one .bool) (fun (q : Bool) h1 => (q = true ↔ (firstM L tx = 0 ∧ kind = 1)) ∧ h1 = h3') (fun _ (q : Bool) h1 hJ => ?_) ?_
  rotate_left
  · refine br beq_iff_eq (fun h5 => ⟨?_, rfl⟩) fun h5 => ⟨⟨fun x => by (cases x), fun x => absurd x.1 h5⟩, rfl⟩
    rw [beq_iff_eq]
    exact ⟨fun x => ⟨h5, x⟩, fun x => x.2⟩
  obtain ⟨hq3, rfl⟩ := hJ
  refine join1 (s1 := .one (.int .i64)) (fun (st : Int) h2 => st = (if firstM L tx = 0 ∧ kind = 1 then stamp else firstM L tx) ∧ h2 = h1) (fun _ (st : Int) h2 hJ => ?_) ?_
  rotate_left
  · refine brB (fun hqt => ⟨by rw [if_pos (hq3.1 hqt)], rfl⟩) fun hqf => ⟨by rw [if_neg fun x => by rw [hq3.2 x] at hqf; cases hqf], rfl⟩
  obtain ⟨rfl, rfl⟩ := hJ
  refine join1 (s1 := .one (.int .i64)) (fun (st : Int) h6 => st = (if kind = 1 then 1 else 3) ∧ h6 = h2) (fun _ (st : Int) h6 hJ => ?_) ?_
  rotate_left
  · refine br beq_iff_eq (fun h5 => ⟨by rw [if_pos h5], rfl⟩) fun h5 => ⟨by rw [if_neg h5], rfl⟩
  obtain ⟨rfl, rfl⟩ := hJ
  repeat (first | with_reducible refine nn ?_ | with_reducible refine let_ ?_ | with_reducible refine brSome ?_ | with_reducible refine brF ?_ | with_reducible refine brT ?_ | ((with_reducible apply ldAt H 0); exact rfl; exact rfl) | ((with_reducible apply ldAt0 H 0); exact rfl; exact rfl) | ((with_reducible apply stAt H 0); exact rfl; exact rfl; intro h H) | ((with_reducible apply stAt0 H 0); exact rfl; exact rfl; intro h H) | ((with_reducible apply allocAt H); intro h b H) | ((with_reducible refine ⟨?_, ?_⟩); first | ((with_reducible apply ldAt H 0); exact rfl; exact rfl; exact rfl) | ((with_reducible apply ldAt0 H 0); exact rfl; exact rfl; exact rfl)))
  refine app1B TRo H 2 rfl 0 rfl ⟨tx, attempt, if firstM L tx = 0 ∧ kind = 1 then stamp else firstM L tx, if kind = 1 then 1 else 3, now⟩ rfl (by omega) (by omega) fun s4 h H => ?_
  repeat (first | with_reducible refine nn ?_ | with_reducible refine let_ ?_ | with_reducible refine brSome ?_ | with_reducible refine brF ?_ | with_reducible refine brT ?_ | ((with_reducible apply ldAt H 0); exact rfl; exact rfl) | ((with_reducible apply ldAt0 H 0); exact rfl; exact rfl) | ((with_reducible apply ldAt H 1); exact rfl; exact rfl) | ((with_reducible apply ldAt0 H 1); exact rfl; exact rfl) | ((with_reducible apply stAt H 0); exact rfl; exact rfl; intro h H) | ((with_reducible apply stAt0 H 0); exact rfl; exact rfl; intro h H) | ((with_reducible apply stAt H 1); exact rfl; exact rfl; intro h H) | ((with_reducible apply stAt0 H 1); exact rfl; exact rfl; intro h H) | ((with_reducible apply allocAt H); intro h b H) | ((with_reducible refine ⟨?_, ?_⟩); first | ((with_reducible apply ldAt H 0); exact rfl; exact rfl; exact rfl) | ((with_reducible apply ldAt0 H 0); exact rfl; exact rfl; exact rfl) | ((with_reducible apply ldAt H 1); exact rfl; exact rfl; exact rfl) | ((with_reducible apply ldAt0 H 1); exact rfl; exact rfl; exact rfl)))
  have H := H.tail
  have hf0 : 0 ≤ firstM L tx := by
    have key : ∀ (M : List SRow), 0 ≤ firstM M tx := by
      intro M
      induction M with
      | nil => exact Int.le_refl _
      | cons a M ih =>
        show 0 ≤ if a.tx = tx ∧ a.stamp > 0 then a.stamp else firstM M tx
        split
        · rename_i x; omega
        · exact ih
    exact key L
  have rel : ∀ {l' : List SRow} {r : SRow}, r = ⟨tx, attempt, if firstM L tx = 0 ∧ kind = 1 then stamp else firstM L tx, if kind = 1 then 1 else 3, now⟩ → (∀ x, cur l' x = if x = r.tx then some r else cur l x) → RelS l' (L ++ [⟨tx, attempt, if firstM L tx = 0 ∧ kind = 1 then stamp else firstM L tx, if kind = 1 then 1 else 3, now⟩]) := fun {l' r} e hcur => by
    subst e
    refine hr.app ho hcur (fun o hc => hnew o hc) ?_ (by show 0 ≤ if firstM L tx = 0 ∧ kind = 1 then stamp else firstM L tx; split <;> omega)
    show (if firstM L tx = 0 ∧ kind = 1 then stamp else firstM L tx) = if firstM L tx ≠ 0 then firstM L tx else if (if firstM L tx = 0 ∧ kind = 1 then stamp else firstM L tx) > 0 then (if firstM L tx = 0 ∧ kind = 1 then stamp else firstM L tx) else 0
    by_cases h0 : firstM L tx = 0
    · rw [if_neg (c := firstM L tx ≠ 0) (fun x => x h0)]
      by_cases hk1' : kind = 1
      · have := hk1 hk1'
        rw [if_pos ⟨h0, hk1'⟩, if_pos (by omega)]
      · rw [if_neg (c := firstM L tx = 0 ∧ kind = 1) (fun x => hk1' x.2), h0]; rfl
    · rw [if_pos (c := firstM L tx ≠ 0) h0, if_neg fun x => h0 x.1]
  cases hc : cur l tx with
  | none =>
    have hf : firstM L tx = 0 := firstM_none L tx (hr.no tx hc)
    have hrec : (⟨tx, attempt, if kind = 1 then stamp else 0, if kind = 1 then 1 else 3, now⟩ : SRow) = ⟨tx, attempt, if firstM L tx = 0 ∧ kind = 1 then stamp else firstM L tx, if kind = 1 then 1 else 3, now⟩ := by
      congr 1
      by_cases hk1' : kind = 1
      · rw [if_pos hk1', if_pos ⟨hf, hk1'⟩]
      · rw [if_neg hk1', if_neg fun x => hk1' x.2, hf]
    rw [putM_none (r := ⟨tx, attempt, if kind = 1 then stamp else 0, if kind = 1 then 1 else 3, now⟩) hc] at hR
    refine hR _ s4 _ H (by simp) ?_
    exact rel hrec (cur_ins (r := ⟨tx, attempt, if kind = 1 then stamp else 0, if kind = 1 then 1 else 3, now⟩) ho.srt hc)
  | some o =>
    have hf := hr.first tx o hc
    have hrec : (⟨tx, attempt, if o.stamp > 0 then o.stamp else (if kind = 1 then stamp else 0), if kind = 1 then 1 else 3, now⟩ : SRow) = ⟨tx, attempt, if firstM L tx = 0 ∧ kind = 1 then stamp else firstM L tx, if kind = 1 then 1 else 3, now⟩ := by
      congr 1
      by_cases h0 : firstM L tx = 0
      · rw [if_neg (c := o.stamp > 0) (by omega)]
        by_cases hk1' : kind = 1
        · rw [if_pos hk1', if_pos ⟨h0, hk1'⟩]
        · rw [if_neg hk1', if_neg fun x => hk1' x.2, h0]
      · rw [if_pos (by omega), if_neg fun x => h0 x.1, hf]
    rw [putM_some (r := ⟨tx, attempt, if kind = 1 then stamp else 0, if kind = 1 then 1 else 3, now⟩) hc, if_neg (fun x => x (h3 o hc))] at hR
    refine hR _ s4 _ H (by simp) ?_
    exact rel hrec (cur_set (r := ⟨tx, attempt, if o.stamp > 0 then o.stamp else (if kind = 1 then stamp else 0), if kind = 1 then 1 else 3, now⟩) ho.srt hc)
end
end Go.Proofs.Ytmpekddpehhdnaa
