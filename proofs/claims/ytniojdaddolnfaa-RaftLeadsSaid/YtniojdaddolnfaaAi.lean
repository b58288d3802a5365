/-
  Layer 8 (raft): RaftVotes over the heap alone.
-/
import Derived.Test.YtniojdaddolnfaaAh
namespace Go.Proofs.Ytniojdaddolnfaa
open Go

section
open Go.ChangeShapes Go.WideShapes
variable {H : Type} {enc : TypeId × Value → H} {w : World} {b0 : Nat} {v : Value} {d : DataW H} {ps : List MemPlace}
theorem els_ent : ElS enc Try.prog w 39 fun cs => ∃ a : RE, cs = eRE.cells a ∧ True := by
  refine els_st Try.underlying39 fun cs hl hf => ?_
  have hl3 : cs.length = 2 := hl.trans (by kernel_rfl)
  match cs, hl3 with
  | [c0, c1], _ =>
    obtain ⟨_, _, h0, _⟩ := hf 0 _ rfl
    obtain ⟨_, x1, h1, f1⟩ := hf 1 _ rfl
    obtain ⟨n0, e0, _⟩ := el_int Try.underlying3 _ _ _ h0
    obtain ⟨s1, e1, _⟩ := els_str Try.underlying9 _ _ _ h1 f1
    have e0' : [c0] = [Value.int .i64 n0] := e0
    have e1' : [c1] = [Value.string s1] := e1
    simp only [List.cons.injEq, and_true] at e0' e1'
    subst e0' e1'
    exact ⟨⟨n0, s1⟩, rfl, trivial⟩
set_option maxRecDepth 100000 in
theorem args_ents (hval : Value.okWide Try.prog w .any b0 30 v) (hd : DataW.Trod enc Try.prog w 0 (fun _ => true) true 30 v d ps) (hf : Fits Try.prog 30 d) :
    ∃ (s : Sl) (xs : List RE), v = s.v ∧ (RdS w.heap 2 s (eRE.fl xs) ∧ xs.length ≤ 140737488351232) := by
  obtain ⟨s, css, h1, _, h3, h4, _, hcc⟩ := args_sl (sz := 2) Try.underlying30 (by kernel_rfl) (by decide) (of_decide_eq_true (by kernel_rfl)) els_ent hval hd hf
  obtain ⟨xs, h6, _, _⟩ := cells_of eRE.cells _ fun c hc => (h3 c hc).2
  rw [h6] at h4
  have hn := rdn h4.rd
  have hc := h4.le
  exact ⟨s, xs, h1, h4.rd, by omega⟩
theorem els_msgs : ElS enc Try.prog w 47 fun cs => ∃ a : RM × Sl, cs = eMS.cells a ∧ True := by
  refine els_st Try.underlying47 fun cs hl hf => ?_
  have hl3 : cs.length = 9 := hl.trans (by kernel_rfl)
  match cs, hl3 with
  | [c0, c1, c2, c3, c4, c5, c6, c7, c8], _ =>
    obtain ⟨_, _, h0, _⟩ := hf 0 _ rfl
    obtain ⟨_, _, h1, _⟩ := hf 1 _ rfl
    obtain ⟨_, _, h2, _⟩ := hf 2 _ rfl
    obtain ⟨_, _, h3, _⟩ := hf 3 _ rfl
    obtain ⟨_, _, h4, _⟩ := hf 4 _ rfl
    obtain ⟨_, _, h5, _⟩ := hf 5 _ rfl
    obtain ⟨_, _, h6, _⟩ := hf 6 _ rfl
    obtain ⟨_, _, h7, _⟩ := hf 7 _ rfl
    obtain ⟨_, x8, h8, f8⟩ := hf 8 _ rfl
    obtain ⟨n0, e0, _⟩ := el_int Try.underlying3 _ _ _ h0
    obtain ⟨n1, e1, _⟩ := el_int Try.underlying3 _ _ _ h1
    obtain ⟨n2, e2, _⟩ := el_int Try.underlying3 _ _ _ h2
    obtain ⟨n3, e3, _⟩ := el_int Try.underlying3 _ _ _ h3
    obtain ⟨n4, e4, _⟩ := el_int Try.underlying3 _ _ _ h4
    obtain ⟨n5, e5, _⟩ := el_int Try.underlying3 _ _ _ h5
    obtain ⟨n6, e6, _⟩ := el_int Try.underlying3 _ _ _ h6
    obtain ⟨n7, e7⟩ := el_bool Try.underlying4 _ _ _ h7
    obtain ⟨s, css, e8, _⟩ := els_sl (sz := 2) Try.underlying30 (by kernel_rfl) (by decide) (of_decide_eq_true (by kernel_rfl)) els_ent _ _ _ h8 f8
    have e0' : [c0] = [Value.int .i64 n0] := e0
    have e1' : [c1] = [Value.int .i64 n1] := e1
    have e2' : [c2] = [Value.int .i64 n2] := e2
    have e3' : [c3] = [Value.int .i64 n3] := e3
    have e4' : [c4] = [Value.int .i64 n4] := e4
    have e5' : [c5] = [Value.int .i64 n5] := e5
    have e6' : [c6] = [Value.int .i64 n6] := e6
    have e7' : [c7] = [Value.bool n7] := e7
    have e8' : [c8] = [s.v] := e8
    simp only [List.cons.injEq, and_true] at e0' e1' e2' e3' e4' e5' e6' e7' e8'
    subst e0' e1' e2' e3' e4' e5' e6' e7' e8'
    exact ⟨(⟨n0, n1, n2, n3, n4, n5, n6, n7, []⟩, s), rfl, trivial⟩
set_option maxRecDepth 100000 in
theorem args_msgs (hval : Value.okWide Try.prog w .any b0 40 v) (hd : DataW.Trod enc Try.prog w 0 (fun _ => true) true 40 v d ps) (hf : Fits Try.prog 40 d) :
    ∃ (s : Sl) (xs : List (RM × Sl)), v = s.v ∧ RdS w.heap 9 s (eMS.fl xs) := by
  obtain ⟨s, css, h1, _, h3, h4, _⟩ := args_sl (sz := 9) Try.underlying40 (by kernel_rfl) (by decide) (of_decide_eq_true (by kernel_rfl)) els_msgs hval hd hf
  obtain ⟨xs, h6, _, _⟩ := cells_of eMS.cells _ fun c hc => (h3 c hc).2
  rw [h6] at h4
  exact ⟨s, xs, h1, h4.rd⟩
end
/-! ## A node that is asked for votes -/
structure VI (T vt : Int) (es : List RE) (X : RN) : Prop where
  id : X.id = 0
  n : X.n = 5
  term : X.term = T
  vote : X.vote = vt
  role : X.role = 0
  log : X.log = es
  out : X.out = []
  commit : X.commit = 0
  votes : X.votes = 0
  heard : X.heard = 0
  next : X.next = fun _ => 0
  matc : X.matc = fun _ => 0
  t0 : 0 ≤ T
  t1 : T ≤ 1099511627776
  v0 : -1 ≤ vt
  l : es.length ≤ 1024
theorem VI.rb {T vote : Int} {es : List RE} {X : RN} (v : VI T vote es X) : RB X := ⟨by rw [v.n]; decide, by rw [v.n]; decide, by rw [v.id]; decide, by rw [v.id, v.n]; decide, fun t => by rw [v.next]; exact ⟨Int.le_refl _, (by decide : (0 : Int) ≤ 1025)⟩, by rw [v.log]; exact v.l⟩
def askM (f t i lt c : Int) (y : Bool) : RM := ⟨3, f, 0, t, i, lt, c, y, []⟩
theorem vi_bad {T vote : Int} {es : List RE} {X : RN} (v : VI T vote es X) {f t i lt c : Int} {y : Bool} (hb : f < 1 ∨ f > 4 ∨ t < T ∨ t > 1099511627776) : rStep X (askM f t i lt c y) = X := by
  unfold rStep
  by_cases hc : countsB X (askM f t i lt c y)
  · rw [if_neg fun x => x hc]
    obtain ⟨_, c2, c3, c4, _, _, c7, c8, _⟩ := hc
    have c2 : f ≠ X.id := c2
    have c3 : 0 ≤ f := c3
    have c4 : f < X.n := c4
    have c8 : t ≤ 1099511627776 := c8
    rw [v.id] at c2
    rw [v.n] at c4
    have ht : t < T := by omega
    have hnw : rNewer X (askM f t i lt c y) = X := by
      unfold rNewer
      rw [if_neg (by show ¬ t > X.term; rw [v.term]; omega)]
    rw [if_neg (show ¬ (askM f t i lt c y).kind = 1 from (by decide : ¬ (3 : Int) = 1)), if_neg (show ¬ (askM f t i lt c y).kind = 2 from (by decide : ¬ (3 : Int) = 2)), hnw, if_pos (by show t < X.term; rw [v.term]; exact ht), if_neg (show ¬ (askM f t i lt c y).kind = 5 from (by decide : ¬ (3 : Int) = 5))]
  · rw [if_pos hc]
theorem vi_good {T vote : Int} {es : List RE} {X : RN} (v : VI T vote es X) {f t i lt c : Int} {y : Bool} (hg : ¬ (f < 1 ∨ f > 4 ∨ t < T ∨ t > 1099511627776)) :
    (rStep X (askM f t i lt c y)).out = [⟨4, 0, f, t, 0, 0, 0, decide (((if t > T then -1 else vote) = -1 ∨ (if t > T then -1 else vote) = f) ∧ youngB es i lt), []⟩] ∧
    VI t (if ((if t > T then -1 else vote) = -1 ∨ (if t > T then -1 else vote) = f) ∧ youngB es i lt then f else (if t > T then -1 else vote)) es { rStep X (askM f t i lt c y) with out := [] } := by
  have hc : countsB X (askM f t i lt c y) := ⟨v.id.symm, by show f ≠ X.id; rw [v.id]; omega, by show 0 ≤ f; omega, by show f < X.n; rw [v.n]; omega, by show (1 : Int) ≤ 3; decide, by show (3 : Int) ≤ 6; decide, by show 0 ≤ t; have := v.t0; omega, by show t ≤ _; omega, Nat.zero_le _, (fun e he => by cases he)⟩
  have hY : ∃ Y, rNewer X (askM f t i lt c y) = Y ∧ VI t (if t > T then -1 else vote) es Y := by
    refine ⟨_, rfl, ?_⟩
    unfold rNewer rFollow
    by_cases ht : t > T
    · rw [if_pos ht]
      have h1 : (askM f t i lt c y).term > X.term := by show t > X.term; rw [v.term]; exact ht
      rw [if_pos h1, if_pos h1]
      exact ⟨v.id, v.n, rfl, rfl, rfl, v.log, v.out, v.commit, v.votes, v.heard, v.next, v.matc, by have := v.t0; omega, by omega, Int.le_refl _, v.l⟩
    · rw [if_neg ht, if_neg (by show ¬ t > X.term; rw [v.term]; exact ht)]
      have e : t = T := by omega
      rw [e]; exact v
  obtain ⟨Y, hY, w⟩ := hY
  have hst : rStep X (askM f t i lt c y) = rAskVote Y (askM f t i lt c y) := by
    unfold rStep
    rw [if_neg fun x => x hc, if_neg (show ¬ (askM f t i lt c y).kind = 1 from (by decide : ¬ (3 : Int) = 1)), if_neg (show ¬ (askM f t i lt c y).kind = 2 from (by decide : ¬ (3 : Int) = 2)), hY, if_neg (by show ¬ t < Y.term; rw [w.term]; omega), if_pos (by rfl : (askM f t i lt c y).kind = 3)]
  rw [hst]
  generalize (if t > T then -1 else vote) = vt at *
  have hv : voteB Y (askM f t i lt c y) ↔ ((vt = -1 ∨ vt = f) ∧ youngB es i lt) := by
    unfold voteB
    show ((Y.vote = -1 ∨ Y.vote = f) ∧ Y.role ≠ 3 ∧ youngB Y.log i lt) ↔ _
    rw [w.vote, w.role, w.log]
    exact ⟨fun x => ⟨x.1, x.2.2⟩, fun x => ⟨x.1, by decide, x.2⟩⟩
  unfold rAskVote rSend
  by_cases hp : (vt = -1 ∨ vt = f) ∧ youngB es i lt
  · rw [if_pos (hv.2 hp), if_pos hp]
    refine ⟨?_, ?_⟩
    · show Y.out ++ [(⟨4, Y.id, f, Y.term, 0, 0, 0, decide (voteB Y _), []⟩ : RM)] = _
      rw [w.out, w.id, w.term, decide_eq_true (hv.2 hp), decide_eq_true hp]; rfl
    · exact ⟨w.id, w.n, w.term, rfl, w.role, w.log, rfl, w.commit, w.votes, w.heard, w.next, w.matc, w.t0, w.t1, by omega, w.l⟩
  · rw [if_neg fun x => hp (hv.1 x), if_neg hp]
    refine ⟨?_, ?_⟩
    · show Y.out ++ [(⟨4, Y.id, f, Y.term, 0, 0, 0, decide (voteB Y _), []⟩ : RM)] = _
      rw [w.out, w.id, w.term, decide_eq_false fun x => hp (hv.1 x), decide_eq_false hp]; rfl
    · exact ⟨w.id, w.n, w.term, w.vote, w.role, w.log, rfl, w.commit, w.votes, w.heard, w.next, w.matc, w.t0, w.t1, w.v0, w.l⟩
set_option maxHeartbeats 3200000 in
theorem law08_RaftVotes_ok {l asks : Sl} {hB : Heap} {es : List RE} {ms : List (RM × Sl)} (w0 : RdS hB 2 l (eRE.fl es) ∧ es.length ≤ 140737488351232) (B : RdS hB 9 asks (eMS.fl ms)) : C_law08_RaftVotes l asks hB fun r h' => r = true ∧ Ext hB.size hB h' := by
  refine A_law08_RaftVotes ?_
  unfold S_law08_RaftVotes
  obtain ⟨A, hesl⟩ := w0
  have hn := rdn A
  have hn2 := rdn B
  refine law08_fixed_ok fun h1 e1 => brN rfl ?_
  refine allocAt (cs := [.int .i64 0, .int .i64 0, .slice none 0 0]) (At.of_ext e1) fun h b H => ?_
  repeat (first | with_reducible refine nn ?_ | with_reducible refine let_ ?_ | with_reducible refine brSome ?_ | with_reducible refine brF ?_ | with_reducible refine brT ?_ | ((with_reducible apply ldAt H 0); exact rfl; exact rfl) | ((with_reducible apply ldAt0 H 0); exact rfl; exact rfl) | ((with_reducible apply stAt H 0); exact rfl; exact rfl; intro h H) | ((with_reducible apply stAt0 H 0); exact rfl; exact rfl; intro h H) | ((with_reducible refine ⟨?_, ?_⟩); first | ((with_reducible apply ldAt H 0); exact rfl; exact rfl; exact rfl) | ((with_reducible apply ldAt0 H 0); exact rfl; exact rfl; exact rfl)))
  refine loop1 (s1 := .one (.int .i64)) (fun (x : Int) h2 => ∃ (j : Nat) (T : Int), x = j ∧ j ≤ es.length ∧ At hB h2 [.blk b 32 [.int .i64 T, .int .i64 (-1), .slice l.a l.n l.c]]) (fun (x : Int) _ => (es.length - x).toNat)
    ⟨0, 0, rfl, Nat.zero_le _, H⟩ fun _ (x : Int) h2 hI => ?_
  clear H
  obtain ⟨j, T, rfl, hj, H⟩ := hI
  refine brD (fun hc => ?_) fun hc => ?_
  · have hj2 : j < es.length := by omega
    refine ixR (H.arg A) j rfl hj2 fun e he => ?_
    repeat (first | with_reducible refine nn ?_ | with_reducible refine let_ ?_ | with_reducible refine brSome ?_ | with_reducible refine brF ?_ | with_reducible refine brT ?_ | ((with_reducible apply ldAt H 0); exact rfl; exact rfl) | ((with_reducible apply ldAt0 H 0); exact rfl; exact rfl) | ((with_reducible apply ldAt H 1); exact rfl; exact rfl) | ((with_reducible apply ldAt0 H 1); exact rfl; exact rfl) | ((with_reducible apply ldR (H.arg A)); assumption; (case hk => assumption); exact rfl) | ((with_reducible apply ldR0 (H.arg A)); assumption; (case hk => assumption); exact rfl) | ((with_reducible apply stAt H 0); exact rfl; exact rfl; intro h H) | ((with_reducible apply stAt0 H 0); exact rfl; exact rfl; intro h H) | ((with_reducible apply stAt H 1); exact rfl; exact rfl; intro h H) | ((with_reducible apply stAt0 H 1); exact rfl; exact rfl; intro h H) | ((with_reducible apply allocAt H); intro h b H) | ((with_reducible refine ⟨?_, ?_⟩); first | ((with_reducible apply ldAt H 0); exact rfl; exact rfl; exact rfl) | ((with_reducible apply ldAt0 H 0); exact rfl; exact rfl; exact rfl) | ((with_reducible apply ldAt H 1); exact rfl; exact rfl; exact rfl) | ((with_reducible apply ldAt0 H 1); exact rfl; exact rfl; exact rfl)))
    rw [w64 (by omega) (by omega)]
    exact ⟨⟨j + 1, _, by omega, by omega, H.tail⟩, by omega⟩
  refine join1 (s1 := .one .bool) (fun (q : Bool) h3 => (q = false → l.n ≤ 40 ∧ asks.n ≤ 40 ∧ okS T (-1) es) ∧ At hB h3 [.blk b 32 [.int .i64 T, .int .i64 (-1), .slice l.a l.n l.c]]) (fun _ (q : Bool) h3 hJ => ?_) ?_
  rotate_left
  · refine brD (fun _ => ⟨fun x => (by cases x), H⟩) fun h4 => brD (fun _ => ⟨fun x => (by cases x), H⟩) fun h5 => ?_
    repeat (first | with_reducible refine nn ?_ | with_reducible refine let_ ?_ | with_reducible refine brSome ?_ | with_reducible refine brF ?_ | with_reducible refine brT ?_ | ((with_reducible apply ldAt H 0); exact rfl; exact rfl) | ((with_reducible apply ldAt0 H 0); exact rfl; exact rfl) | ((with_reducible apply stAt H 0); exact rfl; exact rfl; intro h H) | ((with_reducible apply stAt0 H 0); exact rfl; exact rfl; intro h H) | ((with_reducible refine ⟨?_, ?_⟩); first | ((with_reducible apply ldAt H 0); exact rfl; exact rfl; exact rfl) | ((with_reducible apply ldAt0 H 0); exact rfl; exact rfl; exact rfl)))
    refine ref06_Right_ok H A (by omega) fun q h6 hq H => ⟨fun x => ⟨by omega, by omega, hq.1 (by cases q; cases x; rfl)⟩, H⟩
  obtain ⟨hq, H⟩ := hJ
  refine brB (fun hqt => ⟨rfl, H.ext⟩) fun hqf => ?_
  obtain ⟨h40, h40', hok⟩ := hq hqf
  repeat (first | with_reducible refine nn ?_ | with_reducible refine let_ ?_ | with_reducible refine brSome ?_ | with_reducible refine brF ?_ | with_reducible refine brT ?_ | ((with_reducible apply ldAt H 0); exact rfl; exact rfl) | ((with_reducible apply ldAt0 H 0); exact rfl; exact rfl) | ((with_reducible apply stAt H 0); exact rfl; exact rfl; intro h H) | ((with_reducible apply stAt0 H 0); exact rfl; exact rfl; intro h H) | ((with_reducible refine ⟨?_, ?_⟩); first | ((with_reducible apply ldAt H 0); exact rfl; exact rfl; exact rfl) | ((with_reducible apply ldAt0 H 0); exact rfl; exact rfl; exact rfl)))
  refine raft_New_ok H A (by omega) (fun hb => by omega) (fun hno => absurd hok hno) fun _ _ h4 d H => brN rfl ?_
  have hlast : ∀ {K : Int → Heap → Prop}, K (lastT es) h4 → (bif decide ((l.n : Int) > 0) then Ix l (IntKind.i64.wrap ((l.n : Int) - 1)) 2 fun e7 => Ld (.int .i64) h4 e7 fun (Term8 : Int) => K Term8 h4 else K 0 h4) := fun {K} hK => by
    refine brD (fun hp => ?_) fun hp => ?_
    · rw [w64 (by omega) (by omega)]
      refine ixR (H.ats.arg A) (es.length - 1) (by omega) (by omega) fun e he => ?_
      exact ldR0 (H.ats.arg A) he (by omega) (lastT es) (by rw [lastT_get (by omega)]; rfl) hK
    · have : es = [] := List.length_eq_zero_iff.1 (by omega)
      subst this
      exact hK
  refine join1 (s1 := .one (.int .i64)) (fun (la : Int) h5 => la = lastT es ∧ h5 = h4) (fun _ (la : Int) h5 hJ => ?_) (hlast (K := fun la h5 => la = lastT es ∧ h5 = h4) ⟨rfl, rfl⟩)
  obtain ⟨rfl, rfl⟩ := hJ
  clear hlast
  refine ldAt0 H.ats 0 rfl T rfl (let_ ?_)
  have hv0 : VI T (-1) es (rNew 0 5 9 1 T (-1) es) := ⟨rfl, rfl, rfl, rfl, rfl, rfl, rfl, rfl, rfl, rfl, rfl, rfl, hok.2.1, hok.2.2.1, Int.le_refl _, hok.2.2.2.2.2⟩
  refine loop3 (s1 := .one (.int .i64)) (s2 := .one (.int .i64)) (s3 := .one (.int .i64)) (fun (tm vt x : Int) h6 => ∃ (j : Nat) (X : RN), x = j ∧ j ≤ ms.length ∧ VI tm vt es X ∧ RaftAt hB h6 d X [.blk b 32 [.int .i64 T, .int .i64 (-1), .slice l.a l.n l.c]]) (fun _ _ (x : Int) _ => (ms.length - x).toNat)
    ⟨0, _, rfl, Nat.zero_le _, hv0, H⟩ fun _ (tm vt x : Int) h6 hI => ?_
  clear H hv0
  obtain ⟨j, X, rfl, hj, hv, H⟩ := hI
  refine brD (fun hc2 => ?_) fun hc2 => ⟨rfl, H.ats.ext⟩
  have hj2 : j < ms.length := by omega
  obtain ⟨ty, lg, tl, sl, so, z, hz, H⟩ := H
  refine ixR (H.arg B) j rfl hj2 fun e he => ?_
  repeat (first | with_reducible refine nn ?_ | with_reducible refine let_ ?_ | with_reducible refine brSome ?_ | with_reducible refine brF ?_ | with_reducible refine brT ?_ | ((with_reducible apply ldAt H 0); exact rfl; exact rfl) | ((with_reducible apply ldAt0 H 0); exact rfl; exact rfl) | ((with_reducible apply ldR (H.arg B)); assumption; (case hk => assumption); exact rfl) | ((with_reducible apply ldR0 (H.arg B)); assumption; (case hk => assumption); exact rfl) | ((with_reducible apply stAt H 0); exact rfl; exact rfl; intro h H) | ((with_reducible apply stAt0 H 0); exact rfl; exact rfl; intro h H) | ((with_reducible apply allocAt H); intro h b H) | ((with_reducible refine ⟨?_, ?_⟩); first | ((with_reducible apply ldAt H 0); exact rfl; exact rfl; exact rfl) | ((with_reducible apply ldAt0 H 0); exact rfl; exact rfl; exact rfl)))
  rename Nat => bm
  (try refine ldAt H 0 rfl (⟨none, 0, 0⟩ : Sl) rfl ?_)
  generalize ms[j] = mm at *
  have H : RaftAt hB h d X [.blk bm 47 (mcells (askM mm.1.from_ mm.1.term mm.1.index mm.1.logTerm mm.1.commit mm.1.yes)), .blk b 32 [.int .i64 T, .int .i64 (-1), .slice l.a l.n l.c]] := ⟨ty, lg, tl, sl, so, z, hz, H.mv 1 4⟩
  obtain ⟨⟨_, f, _, t, i, lt, c, y, _⟩, sm⟩ := mm
  dsimp only at H ⊢
  have hrb := hv.rb
  refine raft_Step_ok (m := askM f t i lt c y) H hrb (by rw [hv.commit]; decide) ⟨by rw [hv.term]; exact hv.t0, by rw [hv.term]; exact hv.t1⟩ (by rw [hv.votes]; decide) (by rw [hv.heard]; decide) (fun t => by rw [hv.matc]; exact ⟨Int.le_refl _, (by decide : (0 : Int) ≤ 1024)⟩) (by rw [hv.out]; exact Nat.zero_le _) rfl (show (3 : Int) ≠ 5 by decide) fun h7 H => ?_
  refine raft_Out_ok H fun r3 z2 h8 hz2 H => ?_
  have hr3 := H.ats.n 0 rfl
  have hz3 : z2.length = (rStep X (askM f t i lt c y)).out.length := by rw [← hz2, List.length_map]
  rw [w64 (by omega) (by omega)]
  refine join1 (s1 := .one .bool) (fun (q : Bool) h9 => (q = true ↔ (f < 1 ∨ f > 4 ∨ t < tm ∨ t > 1099511627776)) ∧ h9 = h8) (fun _ (q : Bool) h9 hJ => ?_) ?_
  rotate_left
  · refine ldAt (j := 1) H.ats 1 rfl f rfl (brD (fun g1 => ⟨⟨fun _ => .inl g1, fun _ => rfl⟩, rfl⟩) fun g1 => ?_)
    refine ldAt (j := 1) H.ats 1 rfl f rfl (brD (fun g2 => ⟨⟨fun _ => .inr (.inl g2), fun _ => rfl⟩, rfl⟩) fun g2 => ?_)
    refine ldAt (j := 3) H.ats 1 rfl t rfl (brD (fun g3 => ⟨⟨fun _ => .inr (.inr (.inl g3)), fun _ => rfl⟩, rfl⟩) fun g3 => ?_)
    refine ldAt (j := 3) H.ats 1 rfl t rfl ⟨?_, rfl⟩
    rw [decide_eq_true_iff]
    exact ⟨fun x => .inr (.inr (.inr x)), fun x => by omega⟩
  obtain ⟨hq2, rfl⟩ := hJ
  have keepS : ∀ {h' : Heap} {Y : RN}, RaftAt hB h' d Y (.own r3 9 (eMS.fl z2) :: ([.blk bm 47 (mcells (askM f t i lt c y)), .blk b 32 [.int .i64 T, .int .i64 (-1), .slice l.a l.n l.c]] ++ entsR z2)) → RaftAt hB h' d Y [.blk b 32 [.int .i64 T, .int .i64 (-1), .slice l.a l.n l.c]] := fun H => H.sub (((List.sublist_append_left _ (entsR z2)).trans (List.sublist_cons_self ..)).trans (List.sublist_cons_self ..))
  refine brB (fun hqt => ?_) fun hqf => ?_
  · have e := vi_bad hv (i := i) (lt := lt) (c := c) (y := y) (hq2.1 hqt)
    rw [e] at H hz3
    have h0 : z2.length = 0 := by rw [hz3, hv.out]; rfl
    refine brN (by rw [hr3, h0]; rfl) ?_
    have e2 : ({ X with out := [] } : RN) = X := by rw [← hv.out]
    rw [e2] at H
    exact ⟨⟨j + 1, X, by omega, by omega, hv, keepS H⟩, by omega⟩
  · have hg : ¬ (f < 1 ∨ f > 4 ∨ t < tm ∨ t > 1099511627776) := fun x => by rw [hq2.2 x] at hqf; cases hqf
    obtain ⟨hout, hv2⟩ := vi_good hv (i := i) (lt := lt) (c := c) (y := y) hg
    have h1l : z2.length = 1 := by rw [hz3, hout]; rfl
    have hvv := hv.v0
    refine ldAt (j := 3) H.ats 1 rfl t rfl ?_
    refine join2 (s1 := .one (.int .i64)) (s2 := .one (.int .i64)) (fun (tm1 vt2 : Int) h10 => tm1 = t ∧ vt2 = (if t > tm then -1 else vt) ∧ h10 = h9) (fun _ (tm1 vt2 : Int) h10 hJ => ?_) ?_
    rotate_left
    · refine brD (fun hgt => ldAt (j := 3) H.ats 1 rfl t rfl (let_ ⟨rfl, by rw [if_pos hgt], rfl⟩)) fun hgt => ⟨by omega, by rw [if_neg hgt], rfl⟩
    obtain ⟨rfl, hvt, rfl⟩ := hJ
    rw [← hvt] at hout hv2
    have hvt0 : vt2 < 0 ↔ vt2 = -1 := by rw [hvt]; split <;> omega
    refine join1 (s1 := .one .bool) (fun (yes : Bool) h11 => (yes = true ↔ ((vt2 = -1 ∨ vt2 = f) ∧ youngB es i lt)) ∧ h11 = h10) (fun _ (yes : Bool) h11 hJ => ?_) ?_
    rotate_left
    · have young : (vt2 = -1 ∨ vt2 = f) → Ld (.int .i64) h10 ((⟨bm, 0, none⟩ : Addr).add 5) fun (LogTerm : Int) => (bif decide (LogTerm > lastT es) then (true = true ↔ ((vt2 = -1 ∨ vt2 = f) ∧ youngB es i lt)) ∧ h10 = h10 else Ld (.int .i64) h10 ((⟨bm, 0, none⟩ : Addr).add 5) fun (LogTerm1 : Int) => (bif LogTerm1 == lastT es then Ld (.int .i64) h10 ((⟨bm, 0, none⟩ : Addr).add 4) fun (Index : Int) => Let (decide (Index ≥ (l.n : Int)) : Bool) fun yes1 => (yes1 = true ↔ ((vt2 = -1 ∨ vt2 = f) ∧ youngB es i lt)) ∧ h10 = h10 else (false = true ↔ ((vt2 = -1 ∨ vt2 = f) ∧ youngB es i lt)) ∧ h10 = h10)) := fun hvf => by
        unfold youngB
        refine ldAt (j := 5) H.ats 1 rfl lt rfl (brD (fun g1 => ⟨⟨fun _ => ⟨hvf, .inl g1⟩, fun _ => rfl⟩, rfl⟩) fun g1 => ?_)
        refine ldAt (j := 5) H.ats 1 rfl lt rfl (br beq_iff_eq (fun g2 => ?_) fun g2 => ⟨⟨fun x => (by cases x), fun x => by have := x.2; omega⟩, rfl⟩)
        refine ldAt (j := 4) H.ats 1 rfl i rfl (let_ ⟨?_, rfl⟩)
        rw [decide_eq_true_iff, hn]
        exact ⟨fun x => ⟨hvf, .inr ⟨g2, x⟩⟩, fun x => by have := x.2; omega⟩
      refine brD (fun g1 => young (.inl (hvt0.1 g1))) fun g1 => ?_
      refine ldAt (j := 1) H.ats 1 rfl f rfl (br beq_iff_eq (fun g2 => young (.inr g2)) fun g2 => ⟨⟨fun x => (by cases x), fun x => by have := x.1; omega⟩, rfl⟩)
    obtain ⟨hyes, rfl⟩ := hJ
    refine join1 (s1 := .one (.int .i64)) (fun (vt3 : Int) h12 => vt3 = (if (vt2 = -1 ∨ vt2 = f) ∧ youngB es i lt then f else vt2) ∧ h12 = h11) (fun _ (vt3 : Int) h12 hJ => ?_) ?_
    rotate_left
    · refine brB (fun hy => ldAt (j := 1) H.ats 1 rfl f rfl ⟨by rw [if_pos (hyes.1 hy)], rfl⟩) fun hy => ⟨by rw [if_neg fun x => by rw [hyes.2 x] at hy; cases hy], rfl⟩
    obtain ⟨hvt3, rfl⟩ := hJ
    rw [← hvt3] at hv2
    have e0 : (z2[0]'(by omega)).1 = ⟨4, 0, f, tm1, 0, 0, 0, decide ((vt2 = -1 ∨ vt2 = f) ∧ youngB es i lt), []⟩ := by
      have : (z2.map Prod.fst)[0]'(by rw [List.length_map]; omega) = ⟨4, 0, f, tm1, 0, 0, 0, decide ((vt2 = -1 ∨ vt2 = f) ∧ youngB es i lt), []⟩ := by simp only [hz2, hout]; rfl
      rwa [List.getElem_map] at this
    have A2 := H.ats
    refine brN (by rw [hr3, h1l]; rfl) ?_
    refine ixAt (E := eMS) A2 0 rfl 0 rfl (by omega) fun e he => ?_
    refine ldEl0 (E := eMS) A2 0 rfl he (by omega) (4 : Int) (by show some (Value.int .i64 (z2[0]'(by omega)).1.kind) = _; rw [e0]) (brN rfl ?_)
    refine ixAt (E := eMS) A2 0 rfl 0 rfl (by omega) fun e he => ?_
    refine ldEl (E := eMS) (j := 2) A2 0 rfl he (by omega) f (by show some (Value.int .i64 (z2[0]'(by omega)).1.to) = _; rw [e0]) ?_
    refine ldAt (j := 1) A2 1 rfl f rfl (brN (by simp) ?_)
    refine ixAt (E := eMS) A2 0 rfl 0 rfl (by omega) fun e he => ?_
    refine ldEl (E := eMS) (j := 3) A2 0 rfl he (by omega) tm1 (by show some (Value.int .i64 (z2[0]'(by omega)).1.term) = _; rw [e0]) (brN (by simp) ?_)
    refine ixAt (E := eMS) A2 0 rfl 0 rfl (by omega) fun e he => ?_
    refine ldEl (E := eMS) (j := 7) A2 0 rfl he (by omega) (decide ((vt2 = -1 ∨ vt2 = f) ∧ youngB es i lt)) (by show some (Value.bool (z2[0]'(by omega)).1.yes) = _; rw [e0]) ?_
    refine brN (by
      have : decide ((vt2 = -1 ∨ vt2 = f) ∧ youngB es i lt) = yes := by rw [Bool.eq_iff_iff, decide_eq_true_iff]; exact hyes.symm
      rw [this]; simp) ?_
    refine raft_State_ok H (by show (rStep X (askM f tm1 i lt c y)).log.length ≤ _; have := hv2.log; have := hv2.l; rw [show (rStep X (askM f tm1 i lt c y)).log = es from hv2.log]; omega) fun r4 h13 H => ?_
    refine brN (bne_eq_false_iff_eq.2 hv2.vote) (raft_Term_ok H (brN (bne_eq_false_iff_eq.2 hv2.term) ?_))
    exact ⟨⟨j + 1, _, by omega, by omega, hv2, keepS H.tail⟩, by omega⟩
end Go.Proofs.Ytniojdaddolnfaa
