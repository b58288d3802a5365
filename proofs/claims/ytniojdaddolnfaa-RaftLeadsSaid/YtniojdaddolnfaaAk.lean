/-
  Layer 8 (raft): RaftLeads over the heap alone.
-/
import Derived.Test.YtniojdaddolnfaaAj
namespace Go.Proofs.Ytniojdaddolnfaa
open Go

structure TLD where
  from_ : Int
  index : Int
  yes : Bool
  prop_ : Bool
def eTold : Enc TLD 4 := ⟨fun a => [.int .i64 a.from_, .int .i64 a.index, .bool a.yes, .bool a.prop_], fun _ => rfl, by decide, fun x u hu => by
  simp only [List.mem_cons, List.not_mem_nil, or_false] at hu
  rcases hu with rfl | rfl | rfl | rfl <;> rfl⟩
def eNum : Enc Int 1 := ⟨fun a => [.int .i64 a], fun _ => rfl, by decide, fun x u hu => by
  simp only [List.mem_cons, List.not_mem_nil, or_false] at hu
  rcases hu with rfl; rfl⟩
theorem TNum : ElemT Try.prog 48 3 1 8 := .of (by kernel_rfl)
theorem ZNum : ZeroT Try.prog 3 [.int .i64 0] := ⟨by kernel_rfl⟩
theorem Enc.fl_rep {α : Type} {sz : Nat} (E : Enc α sz) (n : Nat) (x : α) : E.fl (List.replicate n x) = (List.replicate n (E.cells x)).flatten := by
  simp [Enc.fl, List.flatMap_def]
theorem mkAt {α : Type} {sz : Nat} {E : Enc α sz} {t e : TypeId} {by_ : Nat} {zs : List Value} {h0 h : Heap} {L : List Res} {K : Sl → Heap → Prop} (x : α) (hT : ElemT Try.prog t e sz by_) (hz : ZeroT Try.prog e zs) (hx : E.cells x = zs) (H : At h0 h L) {m : Int} (n : Nat) (hm : m = (n : Int)) (hb : by_ * n ≤ 281474976710656) (h63 : n ≤ 9223372036854775807)
    (hK : ∀ s h', At h0 h' (.own s sz (E.fl (List.replicate n x)) :: L) → K s h') : Mk Try.prog t m m h K := by
  refine mk hT hz n n hm hm (Nat.le_refl _) hb h63 fun h' b' e' z' => hK _ h' (H.new e' ?_ fun g hg => ?_)
  · rw [← hx, ← E.fl_rep] at b'
    exact Own.full b' (by rw [E.fl_len, List.length_replicate]) h63
  · have hg : some h.size = some g := hg
    injection hg with hg
    omega
section
open Go.ChangeShapes Go.WideShapes
variable {H : Type} {enc : TypeId × Value → H} {w : World} {b0 : Nat} {v : Value} {d : DataW H} {ps : List MemPlace}
theorem els_told : ElS enc Try.prog w 50 fun cs => ∃ a : TLD, cs = eTold.cells a ∧ True := by
  refine els_st Try.underlying50 fun cs hl hf => ?_
  have hl3 : cs.length = 4 := hl.trans (by kernel_rfl)
  match cs, hl3 with
  | [c0, c1, c2, c3], _ =>
    obtain ⟨_, _, h0, _⟩ := hf 0 _ rfl
    obtain ⟨_, _, h1, _⟩ := hf 1 _ rfl
    obtain ⟨_, _, h2, _⟩ := hf 2 _ rfl
    obtain ⟨_, _, h3, _⟩ := hf 3 _ rfl
    obtain ⟨n0, e0, _⟩ := el_int Try.underlying3 _ _ _ h0
    obtain ⟨n1, e1, _⟩ := el_int Try.underlying3 _ _ _ h1
    obtain ⟨n2, e2⟩ := el_bool Try.underlying4 _ _ _ h2
    obtain ⟨n3, e3⟩ := el_bool Try.underlying4 _ _ _ h3
    have e0' : [c0] = [Value.int .i64 n0] := e0
    have e1' : [c1] = [Value.int .i64 n1] := e1
    have e2' : [c2] = [Value.bool n2] := e2
    have e3' : [c3] = [Value.bool n3] := e3
    simp only [List.cons.injEq, and_true] at e0' e1' e2' e3'
    subst e0' e1' e2' e3'
    exact ⟨⟨n0, n1, n2, n3⟩, rfl, trivial⟩
set_option maxRecDepth 100000 in
theorem args_tolds (hval : Value.okWide Try.prog w .any b0 43 v) (hd : DataW.Trod enc Try.prog w 0 (fun _ => true) true 43 v d ps) (hf : Fits Try.prog 43 d) :
    ∃ (s : Sl) (xs : List TLD), v = s.v ∧ RdS w.heap 4 s (eTold.fl xs) := by
  obtain ⟨s, css, h1, _, h3, h4, _⟩ := args_sl (sz := 4) Try.underlying43 (by kernel_rfl) (by decide) (of_decide_eq_true (by kernel_rfl)) els_told hval hd hf
  obtain ⟨xs, h6, _, _⟩ := cells_of eTold.cells _ fun c hc => (h3 c hc).2
  rw [h6] at h4
  exact ⟨s, xs, h1, h4.rd⟩
end
theorem riseR_le {T : Int} : ∀ {es : List RE} {a : Int}, riseR T a es → ∀ e ∈ es, e.term ≤ T
  | e :: l, a, h, x, hx => by
    rcases List.mem_cons.1 hx with rfl | hx
    · have := h.2.1; omega
    · exact riseR_le h.2.2.2 x hx
theorem com_len {X : RN} (h0 : 0 ≤ X.commit) (h1 : X.commit ≤ X.log.length) : ((committedM X 1).length : Int) = X.commit := by
  unfold committedM
  rw [show (if (1 : Int) > 1 then (1 : Int) else 1) = 1 from rfl]
  by_cases h : 1 > X.commit
  · rw [if_pos h]
    show (0 : Int) = _
    omega
  · rw [if_neg h]
    unfold fromL
    rw [List.length_take, List.length_drop]
    show (((min (X.commit - 1 + 1).toNat (X.log.length - ((1 : Int).toNat - 1)) : Nat)) : Int) = _
    have : ((1 : Int).toNat - 1) = 0 := rfl
    rw [this]
    omega
def stBk (b : Nat) (T : Int) (l : Sl) : Res := .blk b 32 [.int .i64 T, .int .i64 (-1), .slice l.a l.n l.c]
set_option maxHeartbeats 6400000 in
theorem law08_RaftLeads_ok {n : Int} {l told : Sl} {hB : Heap} {es : List RE} {ts : List TLD} (w0 : 0 ≤ n ∧ n ≤ 255) (w1 : RdS hB 2 l (eRE.fl es) ∧ es.length ≤ 140737488351232) (B : RdS hB 4 told (eTold.fl ts)) : C_law08_RaftLeads n l told hB fun r h' => r = true ∧ Ext hB.size hB h' := by
  refine A_law08_RaftLeads ?_
  unfold S_law08_RaftLeads
  obtain ⟨A, hesl⟩ := w1
  have hn := rdn A
  have hn2 := rdn B
  refine law08_fixed_ok fun h1 e1 => brN rfl (nz (by decide) (let_ ?_))
  rw [rem_nonneg w0.1, w64 (n := n % 6) (by omega) (by omega), w64 (n := 2 + n % 6) (by omega) (by omega)]
  obtain ⟨k, hk⟩ : ∃ k : Nat, 2 + n % 6 = (k : Int) := ⟨(2 + n % 6).toNat, by omega⟩
  rw [hk]
  have hk27 : 2 ≤ k ∧ k ≤ 7 := by omega
  clear hk w0
  refine allocAt (cs := [.int .i64 0, .int .i64 0, .slice none 0 0]) (At.of_ext e1) fun h b H => ?_
  repeat (first | with_reducible refine nn ?_ | with_reducible refine let_ ?_ | with_reducible refine brSome ?_ | with_reducible refine brF ?_ | with_reducible refine brT ?_ | ((with_reducible apply ldAt H 0); exact rfl; exact rfl) | ((with_reducible apply ldAt0 H 0); exact rfl; exact rfl) | ((with_reducible apply stAt H 0); exact rfl; exact rfl; intro h H) | ((with_reducible apply stAt0 H 0); exact rfl; exact rfl; intro h H) | ((with_reducible refine ⟨?_, ?_⟩); first | ((with_reducible apply ldAt H 0); exact rfl; exact rfl; exact rfl) | ((with_reducible apply ldAt0 H 0); exact rfl; exact rfl; exact rfl)))
  refine loop1 (s1 := .one (.int .i64)) (fun (x : Int) h2 => ∃ (j : Nat) (T : Int), x = j ∧ j ≤ es.length ∧ At hB h2 [stBk b T l]) (fun (x : Int) _ => (es.length - x).toNat)
    ⟨0, 0, rfl, Nat.zero_le _, H⟩ fun _ (x : Int) h2 hI => ?_
  clear H
  obtain ⟨j, T, rfl, hj, H⟩ := hI
  unfold stBk at H
  refine brD (fun hc => ?_) fun hc => ?_
  · have hj2 : j < es.length := by omega
    refine ixR (H.arg A) j rfl hj2 fun e he => ?_
    repeat (first | with_reducible refine nn ?_ | with_reducible refine let_ ?_ | with_reducible refine brSome ?_ | with_reducible refine brF ?_ | with_reducible refine brT ?_ | ((with_reducible apply ldAt H 0); exact rfl; exact rfl) | ((with_reducible apply ldAt0 H 0); exact rfl; exact rfl) | ((with_reducible apply ldAt H 1); exact rfl; exact rfl) | ((with_reducible apply ldAt0 H 1); exact rfl; exact rfl) | ((with_reducible apply ldR (H.arg A)); assumption; (case hk => assumption); exact rfl) | ((with_reducible apply ldR0 (H.arg A)); assumption; (case hk => assumption); exact rfl) | ((with_reducible apply stAt H 0); exact rfl; exact rfl; intro h H) | ((with_reducible apply stAt0 H 0); exact rfl; exact rfl; intro h H) | ((with_reducible apply stAt H 1); exact rfl; exact rfl; intro h H) | ((with_reducible apply stAt0 H 1); exact rfl; exact rfl; intro h H) | ((with_reducible apply allocAt H); intro h b H) | ((with_reducible refine ⟨?_, ?_⟩); first | ((with_reducible apply ldAt H 0); exact rfl; exact rfl; exact rfl) | ((with_reducible apply ldAt0 H 0); exact rfl; exact rfl; exact rfl) | ((with_reducible apply ldAt H 1); exact rfl; exact rfl; exact rfl) | ((with_reducible apply ldAt0 H 1); exact rfl; exact rfl; exact rfl)))
    rw [w64 (by omega) (by omega)]
    exact ⟨⟨j + 1, _, by omega, by omega, H.tail⟩, by omega⟩
  refine join1 (s1 := .one .bool) (fun (q : Bool) h3 => (q = false → l.n ≤ 40 ∧ told.n ≤ 60 ∧ okS T (-1) es ∧ T < 1099511627776) ∧ At hB h3 [stBk b T l]) (fun _ (q : Bool) h3 hJ => ?_) ?_
  rotate_left
  · refine brD (fun _ => ⟨fun x => (by cases x), H⟩) fun h4 => brD (fun _ => ⟨fun x => (by cases x), H⟩) fun h5 => ?_
    repeat (first | with_reducible refine nn ?_ | with_reducible refine let_ ?_ | with_reducible refine brSome ?_ | with_reducible refine brF ?_ | with_reducible refine brT ?_ | ((with_reducible apply ldAt H 0); exact rfl; exact rfl) | ((with_reducible apply ldAt0 H 0); exact rfl; exact rfl) | ((with_reducible apply stAt H 0); exact rfl; exact rfl; intro h H) | ((with_reducible apply stAt0 H 0); exact rfl; exact rfl; intro h H) | ((with_reducible refine ⟨?_, ?_⟩); first | ((with_reducible apply ldAt H 0); exact rfl; exact rfl; exact rfl) | ((with_reducible apply ldAt0 H 0); exact rfl; exact rfl; exact rfl)))
    refine ref06_Right_ok H A (by omega) fun q h6 hq H => brB (fun _ => ⟨fun x => (by cases x), H⟩) fun hqf => ?_
    refine ldAt0 H 0 rfl T rfl ⟨fun x => ⟨by omega, by omega, hq.1 (by cases q; cases hqf; rfl), ?_⟩, H⟩
    have := of_decide_eq_false x
    omega
  obtain ⟨hq, H⟩ := hJ
  refine brB (fun hqt => ⟨rfl, H.ext⟩) fun hqf => ?_
  obtain ⟨h40, h60, hok, hTl⟩ := hq hqf
  have hT0 : 0 ≤ T ∧ T < 1099511627776 := ⟨hok.2.1, hTl⟩
  have hel : es.length ≤ 40 := by omega
  have het : ∀ e ∈ es, e.term ≤ T := riseR_le hok.1
  unfold stBk at H
  repeat (first | with_reducible refine nn ?_ | with_reducible refine let_ ?_ | with_reducible refine brSome ?_ | with_reducible refine brF ?_ | with_reducible refine brT ?_ | ((with_reducible apply ldAt H 0); exact rfl; exact rfl) | ((with_reducible apply ldAt0 H 0); exact rfl; exact rfl) | ((with_reducible apply stAt H 0); exact rfl; exact rfl; intro h H) | ((with_reducible apply stAt0 H 0); exact rfl; exact rfl; intro h H) | ((with_reducible refine ⟨?_, ?_⟩); first | ((with_reducible apply ldAt H 0); exact rfl; exact rfl; exact rfl) | ((with_reducible apply ldAt0 H 0); exact rfl; exact rfl; exact rfl)))
  refine raft_New_ok H A (by omega) (fun hb => by omega) (fun hno => absurd hok hno) fun _ _ h4 d H => brN rfl ?_
  have hg0 : RB (rNew 0 k 1 1 T (-1) es) := CI.rb (es := es) (t := T) (role := 0) (v := 0) ⟨rfl, rfl, rfl, rfl, rfl, rfl, rfl, rfl, rfl, rfl⟩ hk27 (by omega)
  have H : RaftAt hB h4 d (rNew 0 k 1 1 T (-1) es) [stBk b T l] := H
  refine raft_Tick_ok H hg0 (by show (0 : Int) ≤ 0; decide) ⟨hT0.1, by show T ≤ _; omega⟩ ⟨(by decide : (0 : Int) ≤ 0), (by decide : (0 : Int) ≤ 1000000000)⟩ ⟨(by decide : (0 : Int) ≤ 0), (by decide : (0 : Int) ≤ 1000000000)⟩ ⟨(by decide : (1 : Int) ≤ 1), (by decide : (1 : Int) ≤ 1000)⟩ (by show (0 : Nat) < 128; decide) (Nat.zero_le _) fun h5 H => ?_
  obtain ⟨hci, hco⟩ := ci_tick hk27 hTl (es := es) (by omega)
  generalize rTick (rNew 0 k 1 1 T (-1) es) 0 = X0 at H hci hco
  refine loop1 (s1 := .one (.int .i64)) (fun (x : Int) h6 => ∃ (f : Nat) (X : RN), x = f ∧ 1 ≤ f ∧ f ≤ k ∧ PS k T es f X ∧ X.out.length ≤ 7 * f ∧ RaftAt hB h6 d X [stBk b T l]) (fun (x : Int) _ => (k - x).toNat)
    ⟨1, X0, rfl, Nat.le_refl _, by omega, .inl ⟨hci, hk27.1⟩, hco, H⟩ fun _ (x : Int) h6 hI => ?_
  clear H hci hco
  obtain ⟨f, X, rfl, hf1, hf2, hps, ho, H⟩ := hI
  refine brD (fun hc2 => ?_) fun hc2 => ?_
  · refine ldAt0 H.ats 0 rfl T rfl ?_
    rw [w64 (n := T + 1) (by omega) (by omega)]
    obtain ⟨hps2, ho2⟩ := ps_step hk27 hT0 (by omega) ⟨hf1, by omega⟩ hps
    refine step_g (m := yesM 2 f (T + 1)) H (hps.gb hk27 hT0 (by omega) (by omega)) (by omega) rfl (by decide : (2 : Int) ≠ 5) fun h7 H => let_ ?_
    rw [w64 (n := (f : Int) + 1) (by omega) (by omega)]
    exact ⟨⟨f + 1, _, by omega, by omega, by omega, hps2, by omega, H⟩, by omega⟩
  have hfk : f = k := by omega
  rw [hfk] at hps ho
  have hci : CI k es (T + 1) 2 1 X := by
    rcases hps with ⟨_, hps⟩ | hps
    · omega
    · exact hps
  clear hps hf2 hc2 hf1 hfk
  refine loop1 (s1 := .one (.int .i64)) (fun (x : Int) h7 => ∃ (g : Nat) (X : RN), x = g ∧ 1 ≤ g ∧ g ≤ k ∧ VS k T es g X ∧ X.out.length ≤ 100 + 14 * g ∧ RaftAt hB h7 d X [stBk b T l]) (fun (x : Int) _ => (k - x).toNat)
    ⟨1, X, rfl, Nat.le_refl _, by omega, .inl ⟨hci, hk27.1⟩, by omega, H⟩ fun _ (x : Int) h7 hI => ?_
  clear H hci ho
  obtain ⟨g, X, rfl, hg1, hg2, hvs, ho, H⟩ := hI
  refine brD (fun hc2 => ?_) fun hc2 => ?_
  · refine ldAt0 H.ats 0 rfl T rfl ?_
    rw [w64 (n := T + 1) (by omega) (by omega)]
    obtain ⟨hvs2, ho2⟩ := vs_step hk27 hT0 (by omega) het ⟨hg1, by omega⟩ hvs
    refine step_g (m := yesM 4 g (T + 1)) H (hvs.gb hk27 hT0 (by omega) (by omega)) (by omega) rfl (by decide : (4 : Int) ≠ 5) fun h8 H => let_ ?_
    rw [w64 (n := (g : Int) + 1) (by omega) (by omega)]
    exact ⟨⟨g + 1, _, by omega, by omega, by omega, hvs2, by omega, H⟩, by omega⟩
  have hfk : g = k := by omega
  rw [hfk] at hvs ho
  obtain ⟨hli, hmz⟩ : LI k T es [⟨T + 1, ⟨#[]⟩⟩] X ∧ ∀ t, X.matc t = 0 := by
    rcases hvs with ⟨_, hvs⟩ | hvs
    · omega
    · exact hvs
  clear hvs hg1 hg2 hc2 hfk
  have hlen : X.log.length = es.length + 1 := hli.len
  have hcom : X.commit = 0 := by
    rw [hli.commit]
    show ((if qG X (es.length + 0 + 1) = true then es.length + 0 + 1 else 0 : Nat) : Int) = 0
    rw [if_neg]
    · rfl
    · intro hq
      have hq := of_decide_eq_true hq
      rw [cnt_zero hk27 hli.id hli.n hmz (by omega), hli.n] at hq
      omega
  refine join1 (s1 := .one .bool) (fun (q : Bool) h8 => q = false ∧ h8 = h7) (fun _ (q : Bool) h8 hJ => ?_) ?_
  rotate_left
  · refine raft_Role_ok H (brN (by rw [hli.role]; rfl) (ldAt0 H.ats 0 rfl T rfl (raft_Term_ok H ⟨ldAt0 H.ats 0 rfl T rfl rfl, ?_⟩)))
    rw [w64 (n := T + 1) (by omega) (by omega)]
    refine brN (by rw [hli.term]; simp) (raft_Last_ok H (by omega) ?_)
    rw [w64 (n := (l.n : Int) + 1) (by omega) (by omega)]
    refine brN (bne_eq_false_iff_eq.2 (by omega)) (raft_Commit_ok H ⟨?_, rfl⟩)
    rw [hcom]; rfl
  obtain ⟨rfl, rfl⟩ := hJ
  refine brF ?_
  obtain ⟨ty, lg, tl, sl, so, z, hz, H⟩ := H
  refine mkAt (E := eNum) 0 TNum ZNum rfl H k rfl (by omega) (by omega) fun s1 h9 H => ?_
  have H := H.mv 1 4
  rw [hvL_rep hmz] at H
  have H : RaftAt hB h9 d X [.own s1 1 (eNum.fl (hvL k 0 X.matc)), stBk b T l] := ⟨ty, lg, tl, sl, so, z, hz, H⟩
  refine loop1 (s1 := .one (.int .i64)) (fun (x : Int) h10 => ∃ (j : Nat) (L0 : Int) (ps : List RE) (X : RN), x = j ∧ j ≤ ts.length ∧ LI k T es ps X ∧ ps.length ≤ 1 + j ∧ X.out.length ≤ 300 + 30 * j ∧ RaftAt hB h10 d X [.own s1 1 (eNum.fl (hvL k L0 X.matc)), stBk b T l]) (fun (x : Int) _ => (ts.length - x).toNat)
    ⟨0, 0, _, X, rfl, Nat.zero_le _, hli, Nat.le_refl _, by omega, H⟩ fun _ (x : Int) h10 hI => ?_
  clear H hli hmz hlen hcom ho
  obtain ⟨j, L0, ps, X, rfl, hj, hli, hpl, ho, H⟩ := hI
  refine brD (fun hc2 => ?_) fun hc2 => ⟨rfl, H.ats.ext⟩
  have hj2 : j < ts.length := by omega
  have hs1 : s1.n = k := by have := H.ats.n 0 rfl; rw [hvL_len] at this; exact this
  obtain ⟨ty, lg, tl, sl, so, z, hz, H⟩ := H
  unfold stBk at H
  refine ixR (H.arg B) j rfl hj2 fun e he => ?_
  repeat (first | with_reducible refine nn ?_ | with_reducible refine let_ ?_ | with_reducible refine brSome ?_ | with_reducible refine brF ?_ | with_reducible refine brT ?_ | ((with_reducible apply ldAt H 0); exact rfl; exact rfl) | ((with_reducible apply ldAt0 H 0); exact rfl; exact rfl) | ((with_reducible apply ldR (H.arg B)); assumption; (case hk => assumption); exact rfl) | ((with_reducible apply ldR0 (H.arg B)); assumption; (case hk => assumption); exact rfl) | ((with_reducible apply stAt H 0); exact rfl; exact rfl; intro h H) | ((with_reducible apply stAt0 H 0); exact rfl; exact rfl; intro h H) | ((with_reducible apply allocAt H); intro h b H) | ((with_reducible refine ⟨?_, ?_⟩); first | ((with_reducible apply ldAt H 0); exact rfl; exact rfl; exact rfl) | ((with_reducible apply ldAt0 H 0); exact rfl; exact rfl; exact rfl)))
  rename Nat => bm
  generalize ts[j] = mm at *
  obtain ⟨tf, ti, tyes, tp⟩ := mm
  dsimp only at H ⊢
  have H : RaftAt hB h d X [.blk bm 50 [.int .i64 tf, .int .i64 ti, .bool tyes, .bool tp], .own s1 1 (eNum.fl (hvL k L0 X.matc)), stBk b T l] := ⟨ty, lg, tl, sl, so, z, hz, H.mv 1 4⟩
  refine join0 (fun h11 => ∃ (ps : List RE) (Y : RN), LI k T es ps Y ∧ ps.length ≤ 2 + j ∧ Y.out.length ≤ 320 + 30 * j ∧ RaftAt hB h11 d Y [.blk bm 50 [.int .i64 tf, .int .i64 ti, .bool tyes, .bool tp], .own s1 1 (eNum.fl (hvL k L0 Y.matc)), stBk b T l]) (fun _ h11 hJ => ?_) ?_
  rotate_left
  · refine brB (fun _ => ?_) fun _ => ⟨ps, X, hli, by omega, by omega, H⟩
    have hlen := hli.len
    obtain ⟨Y, hpr, hli2, hmm, ho2⟩ := li_propose hT0.1 het hli (by omega) (data := ⟨#[112]⟩) (by decide)
    have hY : Y = (rAdd X ⟨#[112]⟩).1 := by
      have : rPropose X ⟨#[112]⟩ = ((rAdd X ⟨#[112]⟩).1, ((rAdd X ⟨#[112]⟩).1.log.length : Int), 0) := by
        unfold rPropose
        rw [if_neg (by rw [hli.role]; decide), if_neg (by decide : ¬ ((⟨#[112]⟩ : ByteArray).size > 512)), if_neg (fun x => x (li_add hT0.1 het hli (by omega)).1)]
      rw [hpr] at this
      exact (Prod.mk.inj this).1
    have hylen := hli2.len
    rw [List.length_append] at hylen
    have hylen : Y.log.length = es.length + (ps.length + 1) := hylen
    refine raft_Propose_ok H hli.rb (by rw [hli.commit]; omega) (by omega) (by rw [← hY]; omega) fun h12 H => ?_
    rw [hpr] at H ⊢
    refine brN rfl (raft_Last_ok H (by show Y.log.length ≤ _; omega) (brN (by simp) ?_))
    have H : RaftAt hB h12 d Y _ := H
    rw [← hmm] at H
    exact ⟨_, Y, hli2, by rw [List.length_append]; show ps.length + 1 ≤ _; omega, by omega, H⟩
  clear H hli hpl ho
  obtain ⟨ps, Y, hli, hpl, ho, H⟩ := hJ
  have hlen := hli.len
  refine ldAt0 H.ats 0 rfl tf rfl (ldAt0 H.ats 2 rfl T rfl (ldAt (j := 1) H.ats 0 rfl ti rfl (ldAt (j := 2) H.ats 0 rfl tyes rfl ?_)))
  rw [w64 (n := T + 1) (by omega) (by omega)]
  obtain ⟨hli2, hma, ho2⟩ := li_told hT0 het hli (f := tf) (i := ti) (y := tyes)
  refine step_g (m := toldM tf (T + 1) ti tyes) H (hli.gb hT0) (by omega) rfl (by decide : (6 : Int) ≠ 5) fun h12 H => ?_
  generalize rStep Y (toldM tf (T + 1) ti tyes) = Z at H hli2 hma ho2
  have hlz := hli2.len
  refine join1 (s1 := .one .bool) (fun (q : Bool) h13 => (q = true ↔ takes k Y tf ti tyes) ∧ h13 = h12) (fun _ (q : Bool) h13 hJ => ?_) ?_
  rotate_left
  · unfold takes
    refine ldAt0 H.ats 0 rfl tf rfl (brD (fun g1 => ?_) fun g1 => ⟨⟨fun x => (by cases x), fun x => absurd x.1 g1⟩, rfl⟩)
    refine ldAt0 H.ats 0 rfl tf rfl (brD (fun g2 => ?_) fun g2 => ⟨⟨fun x => (by cases x), fun x => absurd x.2.1 g2⟩, rfl⟩)
    refine ldAt (j := 2) H.ats 0 rfl tyes rfl (brB (fun g3 => ?_) fun g3 => ⟨⟨fun x => (by cases x), fun x => (by rw [x.2.2.1] at g3; cases g3)⟩, rfl⟩)
    refine ldAt (j := 1) H.ats 0 rfl ti rfl (brD (fun g4 => ?_) fun g4 => ⟨⟨fun x => (by cases x), fun x => absurd x.2.2.2.1 g4⟩, rfl⟩)
    refine ldAt (j := 1) H.ats 0 rfl ti rfl (raft_Last_ok H (by omega) ⟨ldAt (j := 1) H.ats 0 rfl ti rfl rfl, ?_, rfl⟩)
    rw [decide_eq_true_iff, hlz, ← hlen]
    exact ⟨fun x => ⟨g1, g2, g3, g4, x⟩, fun x => x.2.2.2.2⟩
  obtain ⟨hq2, rfl⟩ := hJ
  refine join0 (fun h14 => RaftAt hB h14 d Z [.own s1 1 (eNum.fl (hvL k L0 Z.matc)), stBk b T l]) (fun _ h14 hJ => ?_) ?_
  rotate_left
  · refine brB (fun hqt => ?_) fun hqf => ?_
    · have ht := hq2.1 hqt
      rw [if_pos ht] at hma
      have htf := ht.1
      have htg := ht.2.1
      obtain ⟨u, rfl⟩ : ∃ u : Nat, tf = (u : Int) := ⟨tf.toNat, by omega⟩
      have hug : u < (hvL k L0 Y.matc).length := by rw [hvL_len]; omega
      refine ldAt0 H.ats 0 rfl (u : Int) rfl (ldAt0 H.ats 0 rfl (u : Int) rfl ?_)
      refine ixAt (E := eNum) H.ats 1 rfl u rfl hug fun e5 he5 => ?_
      refine ldEl0 (E := eNum) H.ats 1 rfl he5 hug (Y.matc u) (by show some (Value.int .i64 ((hvL k L0 Y.matc)[u])) = _; rw [hvL_get hug, if_neg (by omega)]) ?_
      refine ldAt (j := 1) H.ats 0 rfl ti rfl ?_
      refine ixAt (E := eNum) H.ats 1 rfl u rfl hug fun e6 he6 => ?_
      obtain ⟨ty, lg, tl, sl, so, z, hz, H⟩ := H
      refine stEl0 (E := eNum) (mx (Y.matc u) ti) H 5 rfl he6 hug rfl fun h15 H => ?_
      rw [hvL_set (by omega), ← (show Z.matc = upd Y.matc u (mx (Y.matc u) ti) from hma)] at H
      have H : RaftAt hB h15 d Z [.blk bm 50 [.int .i64 (u : Int), .int .i64 ti, .bool tyes, .bool tp], .own s1 1 (eNum.fl (hvL k L0 Z.matc)), stBk b T l] := ⟨ty, lg, tl, sl, so, z, hz, H⟩
      exact H.tail
    · rw [if_neg (fun x => by rw [hq2.2 x] at hqf; cases hqf)] at hma
      rw [← hma] at H
      exact H.tail
  clear H
  have H := hJ
  clear hJ hq2 hma hli
  refine raft_Last_ok H (by omega) ?_
  have h0g : 0 < (hvL k L0 Z.matc).length := by rw [hvL_len]; omega
  refine ixAt (E := eNum) H.ats 0 rfl 0 rfl h0g fun e3 he3 => ?_
  obtain ⟨ty, lg, tl, sl, so, z, hz, H⟩ := H
  refine stEl0 (E := eNum) (Z.log.length : Int) H 4 rfl he3 h0g rfl fun h15 H => ?_
  rw [hvL_set0] at H
  have H : RaftAt hB h15 d Z [.own s1 1 (eNum.fl (hvL k (Z.log.length : Int) Z.matc)), stBk b T l] := ⟨ty, lg, tl, sl, so, z, hz, H⟩
  refine let_ ?_
  rw [w64 (n := (l.n : Int) + 1) (by omega) (by omega)]
  have hcom := hli2.commit
  have hwl := wantR_le (qG Z) es.length ps.length
  refine loop2 (s1 := .one (.int .i64)) (s2 := .one (.int .i64)) (fun (w i : Int) h16 => h16 = h15 ∧ ∃ c : Nat, c ≤ ps.length ∧ i = (es.length + c + 1 : Nat) ∧ w = (wantR (qG Z) es.length c : Nat)) (fun _ (i : Int) _ => (es.length + ps.length + 1 - i).toNat)
    ⟨rfl, 0, Nat.zero_le _, by omega, rfl⟩ fun _ (w i : Int) h16 hI => ?_
  obtain ⟨rfl, c, hc, rfl, rfl⟩ := hI
  refine raft_Last_ok H (by omega) (brD (fun hc3 => ?_) fun hc3 => ?_)
  · have hcl : c < ps.length := by omega
    have hvl : (hvL k (Z.log.length : Int) Z.matc).length = k := hvL_len ..
    have hcnt := hvL_cnt (k := k) (X := Z) (i := ((es.length + c + 1 : Nat) : Int)) (L := (Z.log.length : Int)) hli2.id hli2.n (by omega)
    refine loop2 (s1 := .one (.int .i64)) (s2 := .one (.int .i64)) (fun (many x : Int) h17 => h17 = h16 ∧ ∃ u : Nat, u ≤ k ∧ x = u ∧ many = (((hvL k (Z.log.length : Int) Z.matc).take u).countP (fun x => decide (x ≥ ((es.length + c + 1 : Nat) : Int))) : Nat)) (fun _ (x : Int) _ => (k - x).toNat)
      ⟨rfl, 0, Nat.zero_le _, rfl, rfl⟩ fun _ (many x : Int) h17 hI => ?_
    obtain ⟨rfl, u, hu, rfl, rfl⟩ := hI
    have hcle : ((hvL k (Z.log.length : Int) Z.matc).take u).countP (fun x => decide (x ≥ ((es.length + c + 1 : Nat) : Int))) ≤ 7 := by
      refine Nat.le_trans List.countP_le_length ?_
      rw [List.length_take]; omega
    refine brD (fun hc4 => ?_) fun hc4 => ?_
    · have hul : u < (hvL k (Z.log.length : Int) Z.matc).length := by omega
      refine ixAt (E := eNum) H.ats 0 rfl u rfl hul fun e4 he4 => ?_
      refine ldEl0 (E := eNum) H.ats 0 rfl he4 hul ((hvL k (Z.log.length : Int) Z.matc)[u]) rfl ?_
      have hta : (hvL k (Z.log.length : Int) Z.matc).take (u + 1) = (hvL k (Z.log.length : Int) Z.matc).take u ++ [(hvL k (Z.log.length : Int) Z.matc)[u]] := List.take_succ_eq_append_getElem hul
      refine brD (fun hx => let_ ?_) fun hx => ?_
      · rw [w64 (by omega) (by omega), w64 (n := (u : Int) + 1) (by omega) (by omega)]
        refine ⟨⟨rfl, u + 1, by omega, by omega, ?_⟩, by omega⟩
        rw [hta, List.countP_append, List.countP_singleton, if_pos (decide_eq_true hx)]
        omega
      · rw [w64 (n := (u : Int) + 1) (by omega) (by omega)]
        refine ⟨⟨rfl, u + 1, by omega, by omega, ?_⟩, by omega⟩
        rw [hta, List.countP_append, List.countP_singleton, if_neg (fun x => hx (of_decide_eq_true x))]
        omega
    · have hug : u = k := by omega
      rw [hug, List.take_of_length_le (Nat.le_of_eq hvl), hcnt] at hcle ⊢
      rw [w64 (n := 2 * (cntG Z ((es.length + c + 1 : Nat) : Int) : Int)) (by omega) (by omega)]
      refine brD (fun hm => let_ ?_) fun hm => let_ ?_
      · rw [w64 (by omega) (by omega)]
        refine ⟨⟨rfl, c + 1, hcl, by omega, ?_⟩, by omega⟩
        show _ = (((if qG Z (es.length + c + 1) = true then es.length + c + 1 else wantR (qG Z) es.length c : Nat)) : Int)
        rw [if_pos (show qG Z (es.length + c + 1) = true from decide_eq_true (by rw [hli2.n]; exact hm))]
      · rw [w64 (by omega) (by omega)]
        refine ⟨⟨rfl, c + 1, hcl, by omega, ?_⟩, by omega⟩
        show _ = (((if qG Z (es.length + c + 1) = true then es.length + c + 1 else wantR (qG Z) es.length c : Nat)) : Int)
        rw [if_neg (show ¬ qG Z (es.length + c + 1) = true from fun x => hm (by have := of_decide_eq_true x; rw [hli2.n] at this; exact this))]
  · have hcp : c = ps.length := by omega
    subst hcp
    refine raft_Commit_ok H (brN (bne_eq_false_iff_eq.2 hcom) (raft_Role_ok H (brN (by rw [hli2.role]; rfl) ?_)))
    refine raft_Committed_ok H (by omega) (by omega) fun r7 h18 H => ?_
    have hr7 := H.ats.n 0 rfl
    have hcl := com_len (X := Z) (by omega) (by omega)
    refine brN (bne_eq_false_iff_eq.2 (by omega)) ?_
    rw [w64 (by omega) (by omega)]
    exact ⟨⟨j + 1, _, ps, Z, by omega, by omega, hli2, by omega, by omega, H.tail⟩, by omega⟩
end Go.Proofs.Ytniojdaddolnfaa
