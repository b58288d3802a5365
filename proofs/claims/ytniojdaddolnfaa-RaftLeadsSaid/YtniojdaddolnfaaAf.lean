/-
  Layer 8 (raft): a new node, what is to be saved, and what the document fixes.
-/
import Derived.Test.YtniojdaddolnfaaAe
import Derived.Test.YtniojdaddolnfaaSRL
namespace Go.Proofs.Ytniojdaddolnfaa
open Go

section
variable {h0 h : Heap} {F L : List Res} {d : Nat} {X : RN}
theorem RaftAt.un (H : RaftAt h0 h d X F) : ∃ L, At h0 h L ∧ ∀ h', At h0 h' L → RaftAt h0 h' d X F := by
  obtain ⟨ty, lg, tl, sl, so, z, hz, H⟩ := H
  exact ⟨_, H, fun h' H => ⟨ty, lg, tl, sl, so, z, hz, H⟩⟩
/-- The terms never fall, from a least one on. -/
def riseR (T : Int) : Int → List RE → Prop
  | _, [] => True
  | a, e :: l => ¬ e.term < a ∧ ¬ e.term > T ∧ e.data.size ≤ 512 ∧ riseR T e.term l
def okS (term vote : Int) (es : List RE) : Prop := riseR term 1 es ∧ 0 ≤ term ∧ term ≤ 1099511627776 ∧ -1 ≤ vote ∧ vote < 7 ∧ es.length ≤ 1024
theorem riseR_take {T : Int} : ∀ {es : List RE} {a : Int} (j : Nat) (hj : j < es.length), (riseR T a (es.take (j + 1)) ↔ riseR T a (es.take j) ∧ ¬ es[j].term < (if j = 0 then a else (es[j - 1]?.map (·.term)).getD 0) ∧ ¬ es[j].term > T ∧ es[j].data.size ≤ 512)
  | e :: l, a, 0, _ => by
    show (_ ∧ _ ∧ _ ∧ True) ↔ True ∧ _ ∧ _ ∧ _
    rw [if_pos rfl]
    simp
  | e :: l, a, j + 1, hj => by
    have ih := riseR_take (T := T) (es := l) (a := e.term) j (by simpa using hj)
    show (_ ∧ _ ∧ _ ∧ riseR T e.term (l.take (j + 1))) ↔ (_ ∧ _ ∧ _ ∧ riseR T e.term (l.take j)) ∧ _
    rw [ih]
    have e1 : (if j + 1 = 0 then a else ((e :: l)[j + 1 - 1]?.map (·.term)).getD 0) = (if j = 0 then e.term else (l[j - 1]?.map (·.term)).getD 0) := by
      rw [if_neg (by omega), Nat.add_sub_cancel]
      cases j with
      | zero => rfl
      | succ i => rw [if_neg (by omega), List.getElem?_cons_succ, Nat.add_sub_cancel]
    rw [e1]
    simp only [List.getElem_cons_succ]
    constructor
    · rintro ⟨h1, h2, h3, h4, h5⟩; exact ⟨⟨h1, h2, h3, h4⟩, h5⟩
    · rintro ⟨⟨h1, h2, h3, h4⟩, h5⟩; exact ⟨h1, h2, h3, h4, h5⟩
theorem riseR_pre {T : Int} : ∀ {es : List RE} {a : Int} (j : Nat), riseR T a es → riseR T a (es.take j)
  | [], _, _, _ => by rw [List.take_nil]; trivial
  | _ :: _, _, 0, _ => trivial
  | e :: l, a, j + 1, h => ⟨h.1, h.2.1, h.2.2.1, riseR_pre j h.2.2.2⟩
def lastOf (a : Int) (es : List RE) (j : Nat) : Int := if j = 0 then a else (es[j - 1]?.map (·.term)).getD 0
theorem lastOf_succ {a : Int} {es : List RE} {j : Nat} (hj : j < es.length) : lastOf a es (j + 1) = es[j].term := by
  unfold lastOf
  rw [if_neg (by omega), Nat.add_sub_cancel, List.getElem?_eq_getElem hj]; rfl
theorem raft_right_ok {term vote : Int} {s : Sl} {es : List RE} {R : Bool → Heap → Prop} (H : At h0 h L) (A : RdS h0 2 s (eRE.fl es)) (hl : es.length ≤ 1000000) (hR : ∀ q h', (q = true ↔ okS term vote es) → At h0 h' L → R q h') : C_raft_right (term, vote, s, ()) h R := by
  refine A_raft_right ?_
  unfold S_raft_right
  have hn := rdn A
  refine allocAt (cs := [.int .i64 term, .int .i64 vote, .slice s.a s.n s.c]) H fun h1 b H => ?_
  repeat (first | with_reducible refine nn ?_ | with_reducible refine let_ ?_ | with_reducible refine brSome ?_ | with_reducible refine brF ?_ | with_reducible refine brT ?_ | ((with_reducible apply ldAt H 0); exact rfl; exact rfl) | ((with_reducible apply ldAt0 H 0); exact rfl; exact rfl) | ((with_reducible apply stAt H 0); exact rfl; exact rfl; intro h H) | ((with_reducible apply stAt0 H 0); exact rfl; exact rfl; intro h H) | ((with_reducible refine ⟨?_, ?_⟩); first | ((with_reducible apply ldAt H 0); exact rfl; exact rfl; exact rfl) | ((with_reducible apply ldAt0 H 0); exact rfl; exact rfl; exact rfl)))
  have no : ∀ {h' : Heap} {q : Res}, At h0 h' (q :: L) → ¬ okS term vote es → R false h' := fun H2 hno => hR _ _ ⟨fun x => (by cases x), fun x => absurd x hno⟩ H2.tail
  refine loop2 (s1 := .one (.int .i64)) (s2 := .one (.int .i64)) (fun (a y : Int) h2 => ∃ j : Nat, y = j ∧ j ≤ es.length ∧ a = lastOf 1 es j ∧ riseR term 1 (es.take j) ∧ At h0 h2 (.blk b 32 [.int .i64 term, .int .i64 vote, .slice s.a s.n s.c] :: L)) (fun _ (y : Int) _ => (es.length - y).toNat)
    ⟨0, rfl, Nat.zero_le _, rfl, trivial, H⟩ fun _ (a y : Int) h2 hI => ?_
  obtain ⟨j, rfl, hj, rfl, hri, H⟩ := hI
  refine brD (fun hc => ?_) fun hc => ?_
  · have hj2 : j < es.length := by omega
    have A2 := H.arg A
    refine ixR A2 j rfl hj2 fun e he => ?_
    refine ldR0 A2 he hj2 es[j].term rfl (ldR (j := 1) A2 he hj2 es[j].data rfl ?_)
    repeat (first | with_reducible refine nn ?_ | with_reducible refine let_ ?_ | with_reducible refine brSome ?_ | with_reducible refine brF ?_ | with_reducible refine brT ?_ | ((with_reducible apply ldAt H 0); exact rfl; exact rfl) | ((with_reducible apply ldAt0 H 0); exact rfl; exact rfl) | ((with_reducible apply ldAt H 1); exact rfl; exact rfl) | ((with_reducible apply ldAt0 H 1); exact rfl; exact rfl) | ((with_reducible apply stAt H 0); exact rfl; exact rfl; intro h H) | ((with_reducible apply stAt0 H 0); exact rfl; exact rfl; intro h H) | ((with_reducible apply stAt H 1); exact rfl; exact rfl; intro h H) | ((with_reducible apply stAt0 H 1); exact rfl; exact rfl; intro h H) | ((with_reducible apply allocAt H); intro h b H) | ((with_reducible refine ⟨?_, ?_⟩); first | ((with_reducible apply ldAt H 0); exact rfl; exact rfl; exact rfl) | ((with_reducible apply ldAt0 H 0); exact rfl; exact rfl; exact rfl) | ((with_reducible apply ldAt H 1); exact rfl; exact rfl; exact rfl) | ((with_reducible apply ldAt0 H 1); exact rfl; exact rfl; exact rfl)))
    have hta := riseR_take (T := term) (a := 1) j hj2
    have bad : ¬ (¬ es[j].term < lastOf 1 es j ∧ ¬ es[j].term > term ∧ es[j].data.size ≤ 512) → ¬ okS term vote es := fun hb hx => hb (hta.1 (riseR_pre _ hx.1)).2
    refine brD (fun h3 => no H.tail (bad fun x => x.1 h3)) fun h3 => ?_
    repeat (first | with_reducible refine nn ?_ | with_reducible refine let_ ?_ | with_reducible refine brSome ?_ | with_reducible refine brF ?_ | with_reducible refine brT ?_ | ((with_reducible apply ldAt H 0); exact rfl; exact rfl) | ((with_reducible apply ldAt0 H 0); exact rfl; exact rfl) | ((with_reducible apply ldAt H 1); exact rfl; exact rfl) | ((with_reducible apply ldAt0 H 1); exact rfl; exact rfl) | ((with_reducible apply stAt H 0); exact rfl; exact rfl; intro h H) | ((with_reducible apply stAt0 H 0); exact rfl; exact rfl; intro h H) | ((with_reducible apply stAt H 1); exact rfl; exact rfl; intro h H) | ((with_reducible apply stAt0 H 1); exact rfl; exact rfl; intro h H) | ((with_reducible apply allocAt H); intro h b H) | ((with_reducible refine ⟨?_, ?_⟩); first | ((with_reducible apply ldAt H 0); exact rfl; exact rfl; exact rfl) | ((with_reducible apply ldAt0 H 0); exact rfl; exact rfl; exact rfl) | ((with_reducible apply ldAt H 1); exact rfl; exact rfl; exact rfl) | ((with_reducible apply ldAt0 H 1); exact rfl; exact rfl; exact rfl)))
    refine brD (fun h4 => no H.tail (bad fun x => x.2.1 h4)) fun h4 => ?_
    repeat (first | with_reducible refine nn ?_ | with_reducible refine let_ ?_ | with_reducible refine brSome ?_ | with_reducible refine brF ?_ | with_reducible refine brT ?_ | ((with_reducible apply ldAt H 0); exact rfl; exact rfl) | ((with_reducible apply ldAt0 H 0); exact rfl; exact rfl) | ((with_reducible apply ldAt H 1); exact rfl; exact rfl) | ((with_reducible apply ldAt0 H 1); exact rfl; exact rfl) | ((with_reducible apply stAt H 0); exact rfl; exact rfl; intro h H) | ((with_reducible apply stAt0 H 0); exact rfl; exact rfl; intro h H) | ((with_reducible apply stAt H 1); exact rfl; exact rfl; intro h H) | ((with_reducible apply stAt0 H 1); exact rfl; exact rfl; intro h H) | ((with_reducible apply allocAt H); intro h b H) | ((with_reducible refine ⟨?_, ?_⟩); first | ((with_reducible apply ldAt H 0); exact rfl; exact rfl; exact rfl) | ((with_reducible apply ldAt0 H 0); exact rfl; exact rfl; exact rfl) | ((with_reducible apply ldAt H 1); exact rfl; exact rfl; exact rfl) | ((with_reducible apply ldAt0 H 1); exact rfl; exact rfl; exact rfl)))
    refine brD (fun h5 => no H.tail (bad fun x => by have := x.2.2; omega)) fun h5 => ?_
    repeat (first | with_reducible refine nn ?_ | with_reducible refine let_ ?_ | with_reducible refine brSome ?_ | with_reducible refine brF ?_ | with_reducible refine brT ?_ | ((with_reducible apply ldAt H 0); exact rfl; exact rfl) | ((with_reducible apply ldAt0 H 0); exact rfl; exact rfl) | ((with_reducible apply ldAt H 1); exact rfl; exact rfl) | ((with_reducible apply ldAt0 H 1); exact rfl; exact rfl) | ((with_reducible apply stAt H 0); exact rfl; exact rfl; intro h H) | ((with_reducible apply stAt0 H 0); exact rfl; exact rfl; intro h H) | ((with_reducible apply stAt H 1); exact rfl; exact rfl; intro h H) | ((with_reducible apply stAt0 H 1); exact rfl; exact rfl; intro h H) | ((with_reducible apply allocAt H); intro h b H) | ((with_reducible refine ⟨?_, ?_⟩); first | ((with_reducible apply ldAt H 0); exact rfl; exact rfl; exact rfl) | ((with_reducible apply ldAt0 H 0); exact rfl; exact rfl; exact rfl) | ((with_reducible apply ldAt H 1); exact rfl; exact rfl; exact rfl) | ((with_reducible apply ldAt0 H 1); exact rfl; exact rfl; exact rfl)))
    rw [w64 (by omega) (by omega)]
    exact ⟨⟨j + 1, by omega, by omega, (lastOf_succ hj2).symm, hta.2 ⟨hri, h3, h4, by omega⟩, H.tail⟩, by omega⟩
  · have hjl : j = es.length := by omega
    subst hjl
    rw [List.take_length] at hri
    repeat (first | with_reducible refine nn ?_ | with_reducible refine let_ ?_ | with_reducible refine brSome ?_ | with_reducible refine brF ?_ | with_reducible refine brT ?_ | ((with_reducible apply ldAt H 0); exact rfl; exact rfl) | ((with_reducible apply ldAt0 H 0); exact rfl; exact rfl) | ((with_reducible apply stAt H 0); exact rfl; exact rfl; intro h H) | ((with_reducible apply stAt0 H 0); exact rfl; exact rfl; intro h H) | ((with_reducible refine ⟨?_, ?_⟩); first | ((with_reducible apply ldAt H 0); exact rfl; exact rfl; exact rfl) | ((with_reducible apply ldAt0 H 0); exact rfl; exact rfl; exact rfl)))
    refine brD (fun h3 => ?_) fun h3 => no H fun x => h3 x.2.1
    repeat (first | with_reducible refine nn ?_ | with_reducible refine let_ ?_ | with_reducible refine brSome ?_ | with_reducible refine brF ?_ | with_reducible refine brT ?_ | ((with_reducible apply ldAt H 0); exact rfl; exact rfl) | ((with_reducible apply ldAt0 H 0); exact rfl; exact rfl) | ((with_reducible apply stAt H 0); exact rfl; exact rfl; intro h H) | ((with_reducible apply stAt0 H 0); exact rfl; exact rfl; intro h H) | ((with_reducible refine ⟨?_, ?_⟩); first | ((with_reducible apply ldAt H 0); exact rfl; exact rfl; exact rfl) | ((with_reducible apply ldAt0 H 0); exact rfl; exact rfl; exact rfl)))
    refine brD (fun h4 => ?_) fun h4 => no H fun x => h4 x.2.2.1
    repeat (first | with_reducible refine nn ?_ | with_reducible refine let_ ?_ | with_reducible refine brSome ?_ | with_reducible refine brF ?_ | with_reducible refine brT ?_ | ((with_reducible apply ldAt H 0); exact rfl; exact rfl) | ((with_reducible apply ldAt0 H 0); exact rfl; exact rfl) | ((with_reducible apply stAt H 0); exact rfl; exact rfl; intro h H) | ((with_reducible apply stAt0 H 0); exact rfl; exact rfl; intro h H) | ((with_reducible refine ⟨?_, ?_⟩); first | ((with_reducible apply ldAt H 0); exact rfl; exact rfl; exact rfl) | ((with_reducible apply ldAt0 H 0); exact rfl; exact rfl; exact rfl)))
    refine brD (fun h5 => ?_) fun h5 => no H fun x => h5 x.2.2.2.1
    repeat (first | with_reducible refine nn ?_ | with_reducible refine let_ ?_ | with_reducible refine brSome ?_ | with_reducible refine brF ?_ | with_reducible refine brT ?_ | ((with_reducible apply ldAt H 0); exact rfl; exact rfl) | ((with_reducible apply ldAt0 H 0); exact rfl; exact rfl) | ((with_reducible apply stAt H 0); exact rfl; exact rfl; intro h H) | ((with_reducible apply stAt0 H 0); exact rfl; exact rfl; intro h H) | ((with_reducible refine ⟨?_, ?_⟩); first | ((with_reducible apply ldAt H 0); exact rfl; exact rfl; exact rfl) | ((with_reducible apply ldAt0 H 0); exact rfl; exact rfl; exact rfl)))
    refine brD (fun h6 => ?_) fun h6 => no H fun x => h6 x.2.2.2.2.1
    repeat (first | with_reducible refine nn ?_ | with_reducible refine let_ ?_ | with_reducible refine brSome ?_ | with_reducible refine brF ?_ | with_reducible refine brT ?_ | ((with_reducible apply ldAt H 0); exact rfl; exact rfl) | ((with_reducible apply ldAt0 H 0); exact rfl; exact rfl) | ((with_reducible apply stAt H 0); exact rfl; exact rfl; intro h H) | ((with_reducible apply stAt0 H 0); exact rfl; exact rfl; intro h H) | ((with_reducible refine ⟨?_, ?_⟩); first | ((with_reducible apply ldAt H 0); exact rfl; exact rfl; exact rfl) | ((with_reducible apply ldAt0 H 0); exact rfl; exact rfl; exact rfl)))
    refine hR _ _ ?_ H.tail
    rw [decide_eq_true_iff]
    exact ⟨fun x => ⟨hri, h3, h4, h5, h6, by omega⟩, fun x => by have := x.2.2.2.2.2; omega⟩
theorem ref06_Right_ok {term vote : Int} {s : Sl} {es : List RE} {R : Bool → Heap → Prop} (H : At h0 h L) (A : RdS h0 2 s (eRE.fl es)) (hl : es.length ≤ 1000000) (hR : ∀ q h', (q = true ↔ okS term vote es) → At h0 h' L → R q h') : C_ref06_Right (term, vote, s, ()) h R := by
  refine A_ref06_Right ?_
  unfold S_ref06_Right
  have hn := rdn A
  refine allocAt (cs := [.int .i64 term, .int .i64 vote, .slice s.a s.n s.c]) H fun h1 b H => ?_
  have no : ∀ {h' : Heap} {q : Res}, At h0 h' (q :: L) → ¬ okS term vote es → R false h' := fun H2 hno => hR _ _ ⟨fun x => (by cases x), fun x => absurd x hno⟩ H2.tail
  refine join1 (s1 := .one .bool) (fun (q : Bool) h2 => (q = true ↔ ¬ (0 ≤ term ∧ term ≤ 1099511627776 ∧ -1 ≤ vote ∧ vote < 7 ∧ es.length ≤ 1024)) ∧ h2 = h1) (fun _ (q : Bool) h2 hJ => ?_) ?_
  rotate_left
  · repeat (first | with_reducible refine nn ?_ | with_reducible refine let_ ?_ | with_reducible refine brSome ?_ | with_reducible refine brF ?_ | with_reducible refine brT ?_ | ((with_reducible apply ldAt H 0); exact rfl; exact rfl) | ((with_reducible apply ldAt0 H 0); exact rfl; exact rfl) | ((with_reducible apply stAt H 0); exact rfl; exact rfl; intro h H) | ((with_reducible apply stAt0 H 0); exact rfl; exact rfl; intro h H) | ((with_reducible refine ⟨?_, ?_⟩); first | ((with_reducible apply ldAt H 0); exact rfl; exact rfl; exact rfl) | ((with_reducible apply ldAt0 H 0); exact rfl; exact rfl; exact rfl)))
    refine brD (fun h3 => ⟨⟨fun _ x => by omega, fun _ => rfl⟩, rfl⟩) fun h3 => ?_
    repeat (first | with_reducible refine nn ?_ | with_reducible refine let_ ?_ | with_reducible refine brSome ?_ | with_reducible refine brF ?_ | with_reducible refine brT ?_ | ((with_reducible apply ldAt H 0); exact rfl; exact rfl) | ((with_reducible apply ldAt0 H 0); exact rfl; exact rfl) | ((with_reducible apply stAt H 0); exact rfl; exact rfl; intro h H) | ((with_reducible apply stAt0 H 0); exact rfl; exact rfl; intro h H) | ((with_reducible refine ⟨?_, ?_⟩); first | ((with_reducible apply ldAt H 0); exact rfl; exact rfl; exact rfl) | ((with_reducible apply ldAt0 H 0); exact rfl; exact rfl; exact rfl)))
    refine brD (fun h4 => ⟨⟨fun _ x => by omega, fun _ => rfl⟩, rfl⟩) fun h4 => ?_
    repeat (first | with_reducible refine nn ?_ | with_reducible refine let_ ?_ | with_reducible refine brSome ?_ | with_reducible refine brF ?_ | with_reducible refine brT ?_ | ((with_reducible apply ldAt H 0); exact rfl; exact rfl) | ((with_reducible apply ldAt0 H 0); exact rfl; exact rfl) | ((with_reducible apply stAt H 0); exact rfl; exact rfl; intro h H) | ((with_reducible apply stAt0 H 0); exact rfl; exact rfl; intro h H) | ((with_reducible refine ⟨?_, ?_⟩); first | ((with_reducible apply ldAt H 0); exact rfl; exact rfl; exact rfl) | ((with_reducible apply ldAt0 H 0); exact rfl; exact rfl; exact rfl)))
    refine brD (fun h5 => ⟨⟨fun _ x => by omega, fun _ => rfl⟩, rfl⟩) fun h5 => ?_
    repeat (first | with_reducible refine nn ?_ | with_reducible refine let_ ?_ | with_reducible refine brSome ?_ | with_reducible refine brF ?_ | with_reducible refine brT ?_ | ((with_reducible apply ldAt H 0); exact rfl; exact rfl) | ((with_reducible apply ldAt0 H 0); exact rfl; exact rfl) | ((with_reducible apply stAt H 0); exact rfl; exact rfl; intro h H) | ((with_reducible apply stAt0 H 0); exact rfl; exact rfl; intro h H) | ((with_reducible refine ⟨?_, ?_⟩); first | ((with_reducible apply ldAt H 0); exact rfl; exact rfl; exact rfl) | ((with_reducible apply ldAt0 H 0); exact rfl; exact rfl; exact rfl)))
    refine brD (fun h6 => ⟨⟨fun _ x => by omega, fun _ => rfl⟩, rfl⟩) fun h6 => ?_
    repeat (first | with_reducible refine nn ?_ | with_reducible refine let_ ?_ | with_reducible refine brSome ?_ | with_reducible refine brF ?_ | with_reducible refine brT ?_ | ((with_reducible apply ldAt H 0); exact rfl; exact rfl) | ((with_reducible apply ldAt0 H 0); exact rfl; exact rfl) | ((with_reducible apply stAt H 0); exact rfl; exact rfl; intro h H) | ((with_reducible apply stAt0 H 0); exact rfl; exact rfl; intro h H) | ((with_reducible refine ⟨?_, ?_⟩); first | ((with_reducible apply ldAt H 0); exact rfl; exact rfl; exact rfl) | ((with_reducible apply ldAt0 H 0); exact rfl; exact rfl; exact rfl)))
    refine ⟨?_, rfl⟩
    rw [decide_eq_true_iff]
    exact ⟨fun x y => by omega, fun x => Decidable.byContradiction fun y => x (by omega)⟩
  obtain ⟨hq, rfl⟩ := hJ
  refine brB (fun hqt => no H fun x => hq.1 hqt x.2) fun hqf => ?_
  have hb : 0 ≤ term ∧ term ≤ 1099511627776 ∧ -1 ≤ vote ∧ vote < 7 ∧ es.length ≤ 1024 := Decidable.byContradiction fun x => by rw [hq.2 x] at hqf; cases hqf
  repeat (first | with_reducible refine nn ?_ | with_reducible refine let_ ?_ | with_reducible refine brSome ?_ | with_reducible refine brF ?_ | with_reducible refine brT ?_ | ((with_reducible apply ldAt H 0); exact rfl; exact rfl) | ((with_reducible apply ldAt0 H 0); exact rfl; exact rfl) | ((with_reducible apply stAt H 0); exact rfl; exact rfl; intro h H) | ((with_reducible apply stAt0 H 0); exact rfl; exact rfl; intro h H) | ((with_reducible refine ⟨?_, ?_⟩); first | ((with_reducible apply ldAt H 0); exact rfl; exact rfl; exact rfl) | ((with_reducible apply ldAt0 H 0); exact rfl; exact rfl; exact rfl)))
  refine loop2 (s1 := .one (.int .i64)) (s2 := .one (.int .i64)) (fun (a y : Int) h2 => ∃ j : Nat, y = j ∧ j ≤ es.length ∧ a = lastOf 1 es j ∧ riseR term 1 (es.take j) ∧ At h0 h2 (.blk b 32 [.int .i64 term, .int .i64 vote, .slice s.a s.n s.c] :: L)) (fun _ (y : Int) _ => (es.length - y).toNat)
    ⟨0, rfl, Nat.zero_le _, rfl, trivial, H⟩ fun _ (a y : Int) h2 hI => ?_
  obtain ⟨j, rfl, hj, rfl, hri, H⟩ := hI
  refine brD (fun hc => ?_) fun hc => ?_
  · have hj2 : j < es.length := by omega
    have A2 := H.arg A
    refine ixR A2 j rfl hj2 fun e he => ?_
    refine ldR0 A2 he hj2 es[j].term rfl (ldR (j := 1) A2 he hj2 es[j].data rfl ?_)
    repeat (first | with_reducible refine nn ?_ | with_reducible refine let_ ?_ | with_reducible refine brSome ?_ | with_reducible refine brF ?_ | with_reducible refine brT ?_ | ((with_reducible apply ldAt H 0); exact rfl; exact rfl) | ((with_reducible apply ldAt0 H 0); exact rfl; exact rfl) | ((with_reducible apply ldAt H 1); exact rfl; exact rfl) | ((with_reducible apply ldAt0 H 1); exact rfl; exact rfl) | ((with_reducible apply stAt H 0); exact rfl; exact rfl; intro h H) | ((with_reducible apply stAt0 H 0); exact rfl; exact rfl; intro h H) | ((with_reducible apply stAt H 1); exact rfl; exact rfl; intro h H) | ((with_reducible apply stAt0 H 1); exact rfl; exact rfl; intro h H) | ((with_reducible apply allocAt H); intro h b H) | ((with_reducible refine ⟨?_, ?_⟩); first | ((with_reducible apply ldAt H 0); exact rfl; exact rfl; exact rfl) | ((with_reducible apply ldAt0 H 0); exact rfl; exact rfl; exact rfl) | ((with_reducible apply ldAt H 1); exact rfl; exact rfl; exact rfl) | ((with_reducible apply ldAt0 H 1); exact rfl; exact rfl; exact rfl)))
    have hta := riseR_take (T := term) (a := 1) j hj2
    have bad : ¬ (¬ es[j].term < lastOf 1 es j ∧ ¬ es[j].term > term ∧ es[j].data.size ≤ 512) → ¬ okS term vote es := fun hb hx => hb (hta.1 (riseR_pre _ hx.1)).2
    refine brD (fun h3 => no H.tail (bad fun x => x.1 h3)) fun h3 => ?_
    repeat (first | with_reducible refine nn ?_ | with_reducible refine let_ ?_ | with_reducible refine brSome ?_ | with_reducible refine brF ?_ | with_reducible refine brT ?_ | ((with_reducible apply ldAt H 0); exact rfl; exact rfl) | ((with_reducible apply ldAt0 H 0); exact rfl; exact rfl) | ((with_reducible apply ldAt H 1); exact rfl; exact rfl) | ((with_reducible apply ldAt0 H 1); exact rfl; exact rfl) | ((with_reducible apply stAt H 0); exact rfl; exact rfl; intro h H) | ((with_reducible apply stAt0 H 0); exact rfl; exact rfl; intro h H) | ((with_reducible apply stAt H 1); exact rfl; exact rfl; intro h H) | ((with_reducible apply stAt0 H 1); exact rfl; exact rfl; intro h H) | ((with_reducible apply allocAt H); intro h b H) | ((with_reducible refine ⟨?_, ?_⟩); first | ((with_reducible apply ldAt H 0); exact rfl; exact rfl; exact rfl) | ((with_reducible apply ldAt0 H 0); exact rfl; exact rfl; exact rfl) | ((with_reducible apply ldAt H 1); exact rfl; exact rfl; exact rfl) | ((with_reducible apply ldAt0 H 1); exact rfl; exact rfl; exact rfl)))
    refine brD (fun h4 => no H.tail (bad fun x => x.2.1 h4)) fun h4 => ?_
    repeat (first | with_reducible refine nn ?_ | with_reducible refine let_ ?_ | with_reducible refine brSome ?_ | with_reducible refine brF ?_ | with_reducible refine brT ?_ | ((with_reducible apply ldAt H 0); exact rfl; exact rfl) | ((with_reducible apply ldAt0 H 0); exact rfl; exact rfl) | ((with_reducible apply ldAt H 1); exact rfl; exact rfl) | ((with_reducible apply ldAt0 H 1); exact rfl; exact rfl) | ((with_reducible apply stAt H 0); exact rfl; exact rfl; intro h H) | ((with_reducible apply stAt0 H 0); exact rfl; exact rfl; intro h H) | ((with_reducible apply stAt H 1); exact rfl; exact rfl; intro h H) | ((with_reducible apply stAt0 H 1); exact rfl; exact rfl; intro h H) | ((with_reducible apply allocAt H); intro h b H) | ((with_reducible refine ⟨?_, ?_⟩); first | ((with_reducible apply ldAt H 0); exact rfl; exact rfl; exact rfl) | ((with_reducible apply ldAt0 H 0); exact rfl; exact rfl; exact rfl) | ((with_reducible apply ldAt H 1); exact rfl; exact rfl; exact rfl) | ((with_reducible apply ldAt0 H 1); exact rfl; exact rfl; exact rfl)))
    refine brD (fun h5 => no H.tail (bad fun x => by have := x.2.2; omega)) fun h5 => ?_
    repeat (first | with_reducible refine nn ?_ | with_reducible refine let_ ?_ | with_reducible refine brSome ?_ | with_reducible refine brF ?_ | with_reducible refine brT ?_ | ((with_reducible apply ldAt H 0); exact rfl; exact rfl) | ((with_reducible apply ldAt0 H 0); exact rfl; exact rfl) | ((with_reducible apply ldAt H 1); exact rfl; exact rfl) | ((with_reducible apply ldAt0 H 1); exact rfl; exact rfl) | ((with_reducible apply stAt H 0); exact rfl; exact rfl; intro h H) | ((with_reducible apply stAt0 H 0); exact rfl; exact rfl; intro h H) | ((with_reducible apply stAt H 1); exact rfl; exact rfl; intro h H) | ((with_reducible apply stAt0 H 1); exact rfl; exact rfl; intro h H) | ((with_reducible apply allocAt H); intro h b H) | ((with_reducible refine ⟨?_, ?_⟩); first | ((with_reducible apply ldAt H 0); exact rfl; exact rfl; exact rfl) | ((with_reducible apply ldAt0 H 0); exact rfl; exact rfl; exact rfl) | ((with_reducible apply ldAt H 1); exact rfl; exact rfl; exact rfl) | ((with_reducible apply ldAt0 H 1); exact rfl; exact rfl; exact rfl)))
    rw [w64 (by omega) (by omega)]
    exact ⟨⟨j + 1, by omega, by omega, (lastOf_succ hj2).symm, hta.2 ⟨hri, h3, h4, by omega⟩, H.tail⟩, by omega⟩
  · have hjl : j = es.length := by omega
    subst hjl
    rw [List.take_length] at hri
    exact hR _ _ ⟨fun _ => ⟨hri, hb⟩, fun _ => rfl⟩ H.tail
theorem raft_New_ok {id n elect beat term vote : Int} {s : Sl} {es : List RE} {R : Option Addr → Int → Heap → Prop} (H : At h0 h L) (A : RdS h0 2 s (eRE.fl es)) (hl : es.length ≤ 100000)
    (hbad : (n < 1 ∨ n > 7 ∨ id < 0 ∨ id ≥ n ∨ elect < 1 ∨ elect > 1000 ∨ beat < 1 ∨ beat > elect) → ∀ h', At h0 h' L → R none 1 h') (hno : ¬ okS term vote es → ∀ h', At h0 h' L → R none 2 h')
    (hR : okS term vote es → ¬ (n < 1 ∨ n > 7 ∨ id < 0 ∨ id ≥ n ∨ elect < 1 ∨ elect > 1000 ∨ beat < 1 ∨ beat > elect) → ∀ h' d, RaftAt h0 h' d (rNew id n elect beat term vote es) L → R (some ⟨d, 0, none⟩) 0 h') : C_raft_New id n elect beat (term, vote, s, ()) h R := by
  refine A_raft_New ?_
  unfold S_raft_New
  refine allocAt (cs := [.int .i64 term, .int .i64 vote, .slice s.a s.n s.c]) H fun h1 b H => ?_
  refine join0 (fun h2 => (okS term vote es ∧ ¬ (n < 1 ∨ n > 7 ∨ id < 0 ∨ id ≥ n ∨ elect < 1 ∨ elect > 1000 ∨ beat < 1 ∨ beat > elect)) ∧ At h0 h2 (.blk b 32 [.int .i64 term, .int .i64 vote, .slice s.a s.n s.c] :: L)) (fun _ h2 hJ => ?_) ?_
  · obtain ⟨hok, H⟩ := hJ
    repeat (first | with_reducible refine nn ?_ | with_reducible refine let_ ?_ | with_reducible refine brSome ?_ | with_reducible refine brF ?_ | with_reducible refine brT ?_ | ((with_reducible apply ldAt H 0); exact rfl; exact rfl) | ((with_reducible apply ldAt0 H 0); exact rfl; exact rfl) | ((with_reducible apply stAt H 0); exact rfl; exact rfl; intro h H) | ((with_reducible apply stAt0 H 0); exact rfl; exact rfl; intro h H) | ((with_reducible refine ⟨?_, ?_⟩); first | ((with_reducible apply ldAt H 0); exact rfl; exact rfl; exact rfl) | ((with_reducible apply ldAt0 H 0); exact rfl; exact rfl; exact rfl)))
    refine log_New_ok H (H.arg A) hl fun lg sl h3 H => ?_
    repeat (first | with_reducible refine nn ?_ | with_reducible refine let_ ?_ | with_reducible refine brSome ?_ | with_reducible refine brF ?_ | with_reducible refine brT ?_ | ((with_reducible apply ldAt H 2); exact rfl; exact rfl) | ((with_reducible apply ldAt0 H 2); exact rfl; exact rfl) | ((with_reducible apply stAt H 2); exact rfl; exact rfl; intro h H) | ((with_reducible apply stAt0 H 2); exact rfl; exact rfl; intro h H) | ((with_reducible refine ⟨?_, ?_⟩); first | ((with_reducible apply ldAt H 2); exact rfl; exact rfl; exact rfl) | ((with_reducible apply ldAt0 H 2); exact rfl; exact rfl; exact rfl)))
    refine allocAt (cs := (rNew id n elect beat term vote es).cells lg ⟨none, 0, 0⟩) ((H.del 2).nil 9) fun h4 d H => ?_
    refine hR hok.1 hok.2 h4 d ⟨63, lg, 74, sl, ⟨none, 0, 0⟩, [], rfl, ?_⟩
    rw [show entsR [] = [] from rfl, List.append_nil]
    have H := H.mv 2 2
    exact H.mv 2 1
  · refine brD (fun h3 => hbad (by omega) _ H.tail) fun h3 => brD (fun h4 => hbad (by omega) _ H.tail) fun h4 => brD (fun h5 => hbad (by omega) _ H.tail) fun h5 => brD (fun h6 => hbad (by omega) _ H.tail) fun h6 => ?_
    refine brD (fun h7 => hbad (by omega) _ H.tail) fun h7 => brD (fun h8 => hbad (by omega) _ H.tail) fun h8 => brD (fun h9 => hbad (by omega) _ H.tail) fun h9 => brD (fun h10 => hbad (by omega) _ H.tail) fun h10 => ?_
    repeat (first | with_reducible refine nn ?_ | with_reducible refine let_ ?_ | with_reducible refine brSome ?_ | with_reducible refine brF ?_ | with_reducible refine brT ?_ | ((with_reducible apply ldAt H 0); exact rfl; exact rfl) | ((with_reducible apply ldAt0 H 0); exact rfl; exact rfl) | ((with_reducible apply stAt H 0); exact rfl; exact rfl; intro h H) | ((with_reducible apply stAt0 H 0); exact rfl; exact rfl; intro h H) | ((with_reducible refine ⟨?_, ?_⟩); first | ((with_reducible apply ldAt H 0); exact rfl; exact rfl; exact rfl) | ((with_reducible apply ldAt0 H 0); exact rfl; exact rfl; exact rfl)))
    refine raft_right_ok H A (by omega) fun q h2 hq H => brNot (fun hqf => hno (fun x => by rw [hq.2 x] at hqf; cases hqf) _ H.tail) fun hqt => ⟨⟨hq.1 hqt, by omega⟩, H⟩
/-- What is to be saved. -/
theorem raft_Save_ok {R : KL [.bool, .int .i64, .int .i64, .int .i64, .sl] → Bool → Heap → Prop} (H : RaftAt h0 h d X F) (hl : X.log.length ≤ 100000) (hf : 0 ≤ X.from_ ∧ X.from_ ≤ 2000)
    (h1 : X.hard = false → X.from_ = 0 → ∀ h', RaftAt h0 h' d X F → R (false, 0, 0, 0, ⟨none, 0, 0⟩, ()) false h')
    (h2 : ¬ (X.hard = false ∧ X.from_ = 0) → ∀ r h', RaftAt h0 h' d { X with hard := false, from_ := 0 } (.own r 2 (eRE.fl (if X.from_ > 0 then fromL X.log X.from_ 1024 else [])) :: F) → R (X.hard, X.term, X.vote, X.from_, r, ()) true h') : C_raft_Node_Save (some ⟨d, 0, none⟩) h R := by
  refine A_raft_Node_Save ?_
  unfold S_raft_Node_Save
  refine RaftAt.alloc (cs := [.bool false, .int .i64 0, .int .i64 0, .int .i64 0, .slice none 0 0]) H fun h b H => ?_
  refine join1 (s1 := .one .bool) (fun (q : Bool) h2 => (q = true ↔ (X.hard = false ∧ X.from_ = 0)) ∧ h2 = h) (fun _ (q : Bool) h3 hJ => ?_) ?_
  rotate_left
  · refine brF (nn (ldR_ok (j := 29) H X.hard (fun _ _ => rfl) (brNot (fun hh => nn (ldR_ok (j := 30) H X.from_ (fun _ _ => rfl) ⟨?_, rfl⟩)) fun hh => ⟨⟨fun x => (by cases x), fun x => by rw [hh] at x; cases x.1⟩, rfl⟩)))
    rw [beq_iff_eq]
    exact ⟨fun x => ⟨hh, x⟩, fun x => x.2⟩
  obtain ⟨hq, rfl⟩ := hJ
  obtain ⟨ty, lg, tl, sl, so, z, hz, H⟩ := H
  refine brB (fun hqt => ?_) fun hqf => ?_
  · repeat (first | with_reducible refine nn ?_ | with_reducible refine let_ ?_ | with_reducible refine brSome ?_ | with_reducible refine brF ?_ | with_reducible refine brT ?_ | ((with_reducible apply ldAt H 4); exact rfl; exact rfl) | ((with_reducible apply ldAt0 H 4); exact rfl; exact rfl) | ((with_reducible apply stAt H 4); exact rfl; exact rfl; intro h H) | ((with_reducible apply stAt0 H 4); exact rfl; exact rfl; intro h H) | ((with_reducible refine ⟨?_, ?_⟩); first | ((with_reducible apply ldAt H 4); exact rfl; exact rfl; exact rfl) | ((with_reducible apply ldAt0 H 4); exact rfl; exact rfl; exact rfl)))
    (try refine ldAt H 4 rfl (⟨none, 0, 0⟩ : Sl) rfl ?_)
    exact h1 (hq.1 hqt).1 (hq.1 hqt).2 _ ⟨ty, lg, tl, sl, so, z, hz, H.del 4⟩
  · have hno : ¬ (X.hard = false ∧ X.from_ = 0) := fun x => by rw [hq.2 x] at hqf; cases hqf
    have h2 := h2 hno
    repeat (first | with_reducible refine nn ?_ | with_reducible refine let_ ?_ | with_reducible refine brSome ?_ | with_reducible refine brF ?_ | with_reducible refine brT ?_ | ((with_reducible apply ldAt H 0); exact rfl; exact rfl) | ((with_reducible apply ldAt0 H 0); exact rfl; exact rfl) | ((with_reducible apply stAt H 0); exact rfl; exact rfl; intro h H) | ((with_reducible apply stAt0 H 0); exact rfl; exact rfl; intro h H) | ((with_reducible refine ⟨?_, ?_⟩); first | ((with_reducible apply ldAt H 0); exact rfl; exact rfl; exact rfl) | ((with_reducible apply ldAt0 H 0); exact rfl; exact rfl; exact rfl)))
    refine allocAt (cs := [.bool false, .int .i64 0, .int .i64 0, .int .i64 0, .slice none 0 0]) H fun h b2 H => ?_
    repeat (first | with_reducible refine nn ?_ | with_reducible refine let_ ?_ | with_reducible refine brSome ?_ | with_reducible refine brF ?_ | with_reducible refine brT ?_ | ((with_reducible apply ldAt H 0); exact rfl; exact rfl) | ((with_reducible apply ldAt0 H 0); exact rfl; exact rfl) | ((with_reducible apply ldAt H 1); exact rfl; exact rfl) | ((with_reducible apply ldAt0 H 1); exact rfl; exact rfl) | ((with_reducible apply stAt H 0); exact rfl; exact rfl; intro h H) | ((with_reducible apply stAt0 H 0); exact rfl; exact rfl; intro h H) | ((with_reducible apply stAt H 1); exact rfl; exact rfl; intro h H) | ((with_reducible apply stAt0 H 1); exact rfl; exact rfl; intro h H) | ((with_reducible refine ⟨?_, ?_⟩); first | ((with_reducible apply ldAt H 0); exact rfl; exact rfl; exact rfl) | ((with_reducible apply ldAt0 H 0); exact rfl; exact rfl; exact rfl) | ((with_reducible apply ldAt H 1); exact rfl; exact rfl; exact rfl) | ((with_reducible apply ldAt0 H 1); exact rfl; exact rfl; exact rfl)))
    refine join0 (fun h5 => ∃ r, At h0 h5 (.own r 2 (eRE.fl (if X.from_ > 0 then fromL X.log X.from_ 1024 else [])) :: .blk b2 55 [.bool X.hard, .int .i64 X.term, .int .i64 X.vote, .int .i64 X.from_, .slice r.a r.n r.c] :: (fourL d ty lg tl sl so X z ++ (.blk b 55 [.bool false, .int .i64 0, .int .i64 0, .int .i64 0, .slice none 0 0] :: (F ++ entsR z))))) (fun _ h5 hJ => ?_) ?_
    · obtain ⟨r, H⟩ := hJ
      repeat (first | with_reducible refine nn ?_ | with_reducible refine let_ ?_ | with_reducible refine brSome ?_ | with_reducible refine brF ?_ | with_reducible refine brT ?_ | ((with_reducible apply ldAt H 1); exact rfl; exact rfl) | ((with_reducible apply ldAt0 H 1); exact rfl; exact rfl) | ((with_reducible apply ldAt H 2); exact rfl; exact rfl) | ((with_reducible apply ldAt0 H 2); exact rfl; exact rfl) | ((with_reducible apply ldAt H 6); exact rfl; exact rfl) | ((with_reducible apply ldAt0 H 6); exact rfl; exact rfl) | ((with_reducible apply stAt H 1); exact rfl; exact rfl; intro h H) | ((with_reducible apply stAt0 H 1); exact rfl; exact rfl; intro h H) | ((with_reducible apply stAt H 2); exact rfl; exact rfl; intro h H) | ((with_reducible apply stAt0 H 2); exact rfl; exact rfl; intro h H) | ((with_reducible apply stAt H 6); exact rfl; exact rfl; intro h H) | ((with_reducible apply stAt0 H 6); exact rfl; exact rfl; intro h H) | ((with_reducible refine ⟨?_, ?_⟩); first | ((with_reducible apply ldAt H 1); exact rfl; exact rfl; exact rfl) | ((with_reducible apply ldAt0 H 1); exact rfl; exact rfl; exact rfl) | ((with_reducible apply ldAt H 2); exact rfl; exact rfl; exact rfl) | ((with_reducible apply ldAt0 H 2); exact rfl; exact rfl; exact rfl) | ((with_reducible apply ldAt H 6); exact rfl; exact rfl; exact rfl) | ((with_reducible apply ldAt0 H 6); exact rfl; exact rfl; exact rfl)))
      exact h2 r _ ⟨ty, lg, tl, sl, so, z, hz, (((H.del 6).del 1).mv 1 4)⟩
    · refine brD (fun hp => ?_) fun hp => ?_
      · rw [if_pos hp]
        repeat (first | with_reducible refine nn ?_ | with_reducible refine let_ ?_ | with_reducible refine brSome ?_ | with_reducible refine brF ?_ | with_reducible refine brT ?_ | ((with_reducible apply ldAt H 1); exact rfl; exact rfl) | ((with_reducible apply ldAt0 H 1); exact rfl; exact rfl) | ((with_reducible apply stAt H 1); exact rfl; exact rfl; intro h H) | ((with_reducible apply stAt0 H 1); exact rfl; exact rfl; intro h H) | ((with_reducible refine ⟨?_, ?_⟩); first | ((with_reducible apply ldAt H 1); exact rfl; exact rfl; exact rfl) | ((with_reducible apply ldAt0 H 1); exact rfl; exact rfl; exact rfl)))
        refine log_From_ok H 2 rfl 3 rfl hl (by omega) (by omega) fun r h H => ?_
        repeat (first | with_reducible refine nn ?_ | with_reducible refine let_ ?_ | with_reducible refine brSome ?_ | with_reducible refine brF ?_ | with_reducible refine brT ?_ | ((with_reducible apply ldAt H 1); exact rfl; exact rfl) | ((with_reducible apply ldAt0 H 1); exact rfl; exact rfl) | ((with_reducible apply ldAt H 2); exact rfl; exact rfl) | ((with_reducible apply ldAt0 H 2); exact rfl; exact rfl) | ((with_reducible apply stAt H 1); exact rfl; exact rfl; intro h H) | ((with_reducible apply stAt0 H 1); exact rfl; exact rfl; intro h H) | ((with_reducible apply stAt H 2); exact rfl; exact rfl; intro h H) | ((with_reducible apply stAt0 H 2); exact rfl; exact rfl; intro h H) | ((with_reducible refine ⟨?_, ?_⟩); first | ((with_reducible apply ldAt H 1); exact rfl; exact rfl; exact rfl) | ((with_reducible apply ldAt0 H 1); exact rfl; exact rfl; exact rfl) | ((with_reducible apply ldAt H 2); exact rfl; exact rfl; exact rfl) | ((with_reducible apply ldAt0 H 2); exact rfl; exact rfl; exact rfl)))
        exact ⟨r, H⟩
      · have h0' : X.from_ = 0 := by omega
        rw [if_neg hp]
        refine ⟨⟨none, 0, 0⟩, ?_⟩
        rw [h0']
        exact H.nil 2
end
end Go.Proofs.Ytniojdaddolnfaa
