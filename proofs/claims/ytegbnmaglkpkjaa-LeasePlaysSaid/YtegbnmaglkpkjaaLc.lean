/-
  Layer 30 (lease): LeasePlays.
-/
import Derived.Test.YtegbnmaglkpkjaaLb
namespace Go.Proofs.Ytegbnmaglkpkjaa
open Go

theorem new_lr (k : Nat) (len skew : Int) : LR 0 (newM k len skew) (List.replicate k 0) (List.replicate k 0) (List.replicate k 0) (List.replicate k 0) (List.replicate k (-1)) (List.replicate k 0) [] := by
  have hl : (newM k len skew).l.length = k := List.length_replicate
  refine ⟨by rw [hl, List.length_replicate], by rw [hl, List.length_replicate], by rw [hl, List.length_replicate], by rw [hl, List.length_replicate], by rw [hl, List.length_replicate], by rw [hl, List.length_replicate], fun i hi => ?_, fun i hi => ?_, fun i hi => ?_, fun i hi => ?_, fun i hi => ?_, fun i _ ⟨p, hp, _⟩ => (by cases hp), fun j m _ _ => ?_, fun x hx => (by cases hx), Int.le_refl _⟩
  all_goals first | rw [hl] at hi | skip
  · rw [cv_rep _ _ _ hi, nd_rep]
  · rw [cv_rep _ _ _ hi, nd_rep]
  · rw [cv_rep _ _ _ hi, nd_rep]
  · rw [cv_rep _ _ _ hi, nd_rep]
  · rw [cv_rep _ _ _ hi, nd_rep]
  · rw [nd_rep]
    refine ⟨fun hb => ?_, fun ⟨x, hx, _⟩ => (by cases hx)⟩
    have hb : Nat.testBit 0 j = true := hb
    rw [Nat.zero_testBit] at hb; cases hb
section
variable {h0 h : Heap} {F : List Res} {d : Nat} {f : LF} {N : Int}
theorem law30_want_ok {o : Nat → Int} {kd n : Int} {R : Int → Int → Heap → Prop} (H : RefAt h0 h d f N F) (ho : LOk N f) (I : LInv f o) (hk : 0 ≤ kd)
    (hR : ∀ h', RefAt h0 h' d (actM f kd n).1 (N + 1) F → R (actM f kd n).2.1 (actM f kd n).2.2 h') : C_law30_want (some ⟨d, 0, none⟩) (kd, n, ()) h R := by
  obtain ⟨X, H, Q, hX⟩ := H
  have hfl := ho.fl
  have hN := ho.N
  have hXl : X.FL.length = f.fl.length := by rw [hX]
  refine A_law30_want ?_
  unfold S_law30_want
  repeat (first | with_reducible refine nn ?_ | with_reducible refine let_ ?_ | with_reducible refine brSome ?_ | with_reducible refine brF ?_ | with_reducible refine brT ?_ | ((with_reducible apply ldAt H 0); exact rfl; exact rfl) | ((with_reducible apply ldAt0 H 0); exact rfl; exact rfl) | ((with_reducible apply stAt H 0); exact rfl; exact rfl; intro h H) | ((with_reducible apply stAt0 H 0); exact rfl; exact rfl; intro h H) | ((with_reducible apply allocAt H); intro h b H) | ((with_reducible refine ⟨?_, ?_⟩); first | ((with_reducible apply ldAt H 0); exact rfl; exact rfl; exact rfl) | ((with_reducible apply ldAt0 H 0); exact rfl; exact rfl; exact rfl)))
  refine nz (by decide) ?_
  rw [rem_nonneg hk]
  have H : At h0 h (refL d f.len f.skew X ++ (.blk b 46 [.int .u8 kd, .int .i64 n] :: F)) := H.mv 1 9
  have HR : RefAt h0 h d f N (.blk b 46 [.int .u8 kd, .int .i64 n] :: F) := ⟨X, H, Q, hX⟩
  have tmp : ∀ {h' : Heap} {f' : LF} {M : Int}, M ≤ N + 1 → RefAt h0 h' d f' M (.blk b 46 [.int .u8 kd, .int .i64 n] :: F) → RefAt h0 h' d f' (N + 1) F := fun hM ⟨Y, H, Q, hY⟩ => ⟨Y, H.del 9, Q.mono hM, hY⟩
  have i1 : N ≤ N + 1 := by omega
  refine join1 (s1 := .one .bool) (fun (b : Bool) h1 => h1 = h ∧ b = decide (kd % 9 = 0 ∨ kd % 9 = 1)) (fun _ (b : Bool) h1 hJ => ?_) ?_
  · obtain ⟨rfl, rfl⟩ := hJ
    unfold actM at hR
    refine brD (fun hc => ?_) fun hc => ?_
    · rw [if_pos hc] at hR
      repeat (first | with_reducible refine nn ?_ | with_reducible refine let_ ?_ | with_reducible refine brSome ?_ | with_reducible refine brF ?_ | with_reducible refine brT ?_ | ((with_reducible apply ldAt H 9); exact rfl; exact rfl) | ((with_reducible apply ldAt0 H 9); exact rfl; exact rfl) | ((with_reducible apply stAt H 9); exact rfl; exact rfl; intro h H) | ((with_reducible apply stAt0 H 9); exact rfl; exact rfl; intro h H) | ((with_reducible apply allocAt H); intro h b H) | ((with_reducible refine ⟨?_, ?_⟩); first | ((with_reducible apply ldAt H 9); exact rfl; exact rfl; exact rfl) | ((with_reducible apply ldAt0 H 9); exact rfl; exact rfl; exact rfl)))
      refine ref30_Tick_ok HR ho (fun hb => ?_) fun k hi hk h2 H2 => ?_
      · rw [onNode_bad hb] at hR; exact hR _ (tmp i1 HR)
      · subst hi; rw [onNode_ok hk] at hR; exact hR _ (tmp i1 H2)
    · rw [if_neg hc] at hR
      refine br beq_iff_eq (fun hc => ?_) fun hc => ?_
      · rw [if_pos hc] at hR
        repeat (first | with_reducible refine nn ?_ | with_reducible refine let_ ?_ | with_reducible refine brSome ?_ | with_reducible refine brF ?_ | with_reducible refine brT ?_ | ((with_reducible apply ldAt H 9); exact rfl; exact rfl) | ((with_reducible apply ldAt0 H 9); exact rfl; exact rfl) | ((with_reducible apply stAt H 9); exact rfl; exact rfl; intro h H) | ((with_reducible apply stAt0 H 9); exact rfl; exact rfl; intro h H) | ((with_reducible apply allocAt H); intro h b H) | ((with_reducible refine ⟨?_, ?_⟩); first | ((with_reducible apply ldAt H 9); exact rfl; exact rfl; exact rfl) | ((with_reducible apply ldAt0 H 9); exact rfl; exact rfl; exact rfl)))
        refine ref30_Ask_ok HR ho (fun hb => ?_) fun k hi hk h2 H2 => ?_
        · rw [onNode_bad hb] at hR; exact hR _ (tmp i1 HR)
        · subst hi; rw [onNode_ok hk] at hR; exact hR _ (tmp i1 H2)
      · rw [if_neg hc] at hR
        refine br beq_iff_eq (fun hc => ?_) fun hc => ?_
        · rw [if_pos hc] at hR
          repeat (first | with_reducible refine nn ?_ | with_reducible refine let_ ?_ | with_reducible refine brSome ?_ | with_reducible refine brF ?_ | with_reducible refine brT ?_ | ((with_reducible apply ldAt H 9); exact rfl; exact rfl) | ((with_reducible apply ldAt0 H 9); exact rfl; exact rfl) | ((with_reducible apply stAt H 9); exact rfl; exact rfl; intro h H) | ((with_reducible apply stAt0 H 9); exact rfl; exact rfl; intro h H) | ((with_reducible apply allocAt H); intro h b H) | ((with_reducible refine ⟨?_, ?_⟩); first | ((with_reducible apply ldAt H 9); exact rfl; exact rfl; exact rfl) | ((with_reducible apply ldAt0 H 9); exact rfl; exact rfl; exact rfl)))
          refine ref30_Drop_ok H (by omega) (fun hb => ?_) fun k hi hk h2 sf H2 => ?_
          · rw [onPkt_bad (by omega)] at hR; exact hR _ (tmp i1 HR)
          · subst hi
            rw [hXl] at hk
            rw [onPkt_ok hk] at hR
            exact hR _ (tmp (f' := dropM f k) i1 ⟨{ X with sf := sf, FL := X.FL.take k ++ X.FL.drop (k + 1) }, H2, Q.part drop_mem, by rw [hX]; rfl⟩)
        · rw [if_neg hc] at hR
          refine br beq_iff_eq (fun hc => ?_) fun hc => ?_
          · rw [if_pos hc] at hR
            repeat (first | with_reducible refine nn ?_ | with_reducible refine let_ ?_ | with_reducible refine brSome ?_ | with_reducible refine brF ?_ | with_reducible refine brT ?_ | ((with_reducible apply ldAt H 9); exact rfl; exact rfl) | ((with_reducible apply ldAt0 H 9); exact rfl; exact rfl) | ((with_reducible apply stAt H 9); exact rfl; exact rfl; intro h H) | ((with_reducible apply stAt0 H 9); exact rfl; exact rfl; intro h H) | ((with_reducible apply allocAt H); intro h b H) | ((with_reducible refine ⟨?_, ?_⟩); first | ((with_reducible apply ldAt H 9); exact rfl; exact rfl; exact rfl) | ((with_reducible apply ldAt0 H 9); exact rfl; exact rfl; exact rfl)))
            refine ref30_Double_ok H (by omega) (fun hb => ?_) fun k hi hk h2 sf H2 => ?_
            · rw [onPkt_bad (by omega)] at hR; exact hR _ (tmp i1 HR)
            · subst hi
              have hk' : k < f.fl.length := by omega
              have e : X.FL[k] = f.fl[k] := by simp only [hX]
              rw [onPkt_ok hk'] at hR
              rw [e] at H2
              refine hR _ (tmp (f' := doubleM f f.fl[k]) i1 ⟨{ X with sf := sf, FL := X.FL ++ [f.fl[k]] }, H2, Q.part (fl := f.fl ++ [f.fl[k]]) fun p hp => ?_, by rw [hX]; rfl⟩)
              rcases List.mem_append.1 hp with hp | hp
              · exact hp
              · rw [List.mem_singleton.1 hp]
                exact List.getElem_mem hk'
          · rw [if_neg hc] at hR
            refine br beq_iff_eq (fun hc => ?_) fun hc => ?_
            · rw [if_pos hc] at hR
              repeat (first | with_reducible refine nn ?_ | with_reducible refine let_ ?_ | with_reducible refine brSome ?_ | with_reducible refine brF ?_ | with_reducible refine brT ?_ | ((with_reducible apply ldAt H 9); exact rfl; exact rfl) | ((with_reducible apply ldAt0 H 9); exact rfl; exact rfl) | ((with_reducible apply stAt H 9); exact rfl; exact rfl; intro h H) | ((with_reducible apply stAt0 H 9); exact rfl; exact rfl; intro h H) | ((with_reducible apply allocAt H); intro h b H) | ((with_reducible refine ⟨?_, ?_⟩); first | ((with_reducible apply ldAt H 9); exact rfl; exact rfl; exact rfl) | ((with_reducible apply ldAt0 H 9); exact rfl; exact rfl; exact rfl)))
              refine ref30_Fail_ok HR ho I (fun hb => ?_) fun k hi hk h2 H2 => ?_
              · rw [onNode_bad hb] at hR; exact hR _ (tmp i1 HR)
              · subst hi; rw [onNode_ok hk] at hR; exact hR _ (tmp i1 H2)
            · rw [if_neg hc] at hR
              repeat (first | with_reducible refine nn ?_ | with_reducible refine let_ ?_ | with_reducible refine brSome ?_ | with_reducible refine brF ?_ | with_reducible refine brT ?_ | ((with_reducible apply ldAt H 9); exact rfl; exact rfl) | ((with_reducible apply ldAt0 H 9); exact rfl; exact rfl) | ((with_reducible apply stAt H 9); exact rfl; exact rfl; intro h H) | ((with_reducible apply stAt0 H 9); exact rfl; exact rfl; intro h H) | ((with_reducible apply allocAt H); intro h b H) | ((with_reducible refine ⟨?_, ?_⟩); first | ((with_reducible apply ldAt H 9); exact rfl; exact rfl; exact rfl) | ((with_reducible apply ldAt0 H 9); exact rfl; exact rfl; exact rfl)))
              refine ref30_Deliver_ok HR ho I (fun hb => ?_) fun k hi hk ht h2 H2 => ?_
              · rw [onPkt_bad hb] at hR; exact hR _ (tmp i1 HR)
              · subst hi; rw [onPkt_ok hk, nd_get ht] at hR; exact hR _ (tmp (Int.le_refl _) H2)
  · refine brB (fun hc => ⟨rfl, ?_⟩) fun hc => ⟨rfl, ?_⟩
    · rw [hc]; rw [beq_iff_eq] at hc; rw [decide_eq_true (.inl hc)]
    · rw [beq_eq_false_iff_ne] at hc
      by_cases h1 : kd % 9 = 1
      · rw [decide_eq_true (.inr h1)]; simp [h1]
      · rw [decide_eq_false (by omega)]; simp [h1]
end
set_option maxHeartbeats 1600000 in
theorem law30_LeasePlays_ok {n length skew : Int} {l : Sl} {hB : Heap} {acts : List LAct} (_w0 : -9223372036854775808 ≤ n ∧ n ≤ 9223372036854775807) (_w1 : -9223372036854775808 ≤ length ∧ length ≤ 9223372036854775807) (_w2 : -9223372036854775808 ≤ skew ∧ skew ≤ 9223372036854775807) (w3 : RdS hB 2 l (eAct.fl acts) ∧ ∀ a ∈ acts, 0 ≤ a.kind ∧ a.kind ≤ 255) :
    C_law30_LeasePlays n length skew l hB fun r h' => r = true ∧ Ext hB.size hB h' := by
  refine A_law30_LeasePlays ?_
  unfold S_law30_LeasePlays
  obtain ⟨A, hk⟩ := w3
  have hln := rdn A
  refine law30_fixed_ok fun h1 e1 => brN rfl (brD (fun _ => ⟨rfl, e1⟩) fun hc => ?_)
  refine lease_New_ok (At.of_ext e1) (fun hb => ?_) fun k hkn hok h2 d ty s1 H => ?_
  · refine brD (fun _ => ⟨rfl, e1⟩) fun h1 => brD (fun _ => ⟨rfl, e1⟩) fun h2 => brD (fun _ => ⟨rfl, e1⟩) fun h3 => brD (fun _ => ⟨rfl, e1⟩) fun h4 => brD (fun _ => ⟨rfl, e1⟩) fun h5 => brD (fun _ => ⟨rfl, e1⟩) fun h6 => ?_
    rw [w64 (n := 2 * skew) (by omega) (by omega)]
    refine brD (fun _ => ⟨rfl, e1⟩) fun h7 => absurd ?_ hb
    exact ⟨by omega, by omega, by omega, by omega, by omega, by omega, by omega⟩
  have hok' := hok
  unfold newOk at hok'
  refine brD (fun _ => by omega) fun _ => brD (fun _ => by omega) fun _ => brD (fun _ => by omega) fun _ => brD (fun _ => by omega) fun _ => brD (fun _ => by omega) fun _ => brD (fun _ => by omega) fun _ => ?_
  rw [w64 (n := 2 * skew) (by omega) (by omega)]
  refine brD (fun _ => by omega) fun _ => ?_
  have hk7 : 1 ≤ k ∧ k ≤ 7 := by omega
  rw [hkn] at hok ⊢
  refine ref30_New_at H hk7.2 fun dr h3 sc sr sb st sw sp H => ?_
  have H : At hB h3 (fieldL d ty s1 ⟨none, 0, 0⟩ (newM k length skew) ++ refL dr length skew (newX sc sr sb st sw sp k)) := H.mv 9 3
  refine loop1 (s1 := .one (.int .i64)) (fun (x : Int) h3 => ∃ (j : Nat) (f : LF) (s1 s2 : Sl) (o : Nat → Int) (X : RL), x = j ∧ j ≤ acts.length ∧ At hB h3 (fieldL d ty s1 s2 f ++ refL dr f.len f.skew X) ∧ LOk j f ∧ LInv f o ∧ f.l.length = k ∧ LR j f X.C X.R X.B X.T X.W X.P X.G ∧ X.FL = f.fl) (fun (x : Int) _ => (acts.length - x).toNat)
    ⟨0, newM k length skew, s1, _, _, newX sc sr sb st sw sp k, rfl, Nat.zero_le _, H, new_ok hok, new_inv hok, List.length_replicate, new_lr k length skew, rfl⟩ fun _ (x : Int) h3 hI => ?_
  obtain ⟨j, f, s1, s2, o, X, rfl, hj, H, ho, hi, hlen, Q, hX⟩ := hI
  refine brD (fun hc2 => ?_) fun hc2 => ⟨rfl, H.ext⟩
  have hj2 : j < acts.length := by omega
  refine ixR (H.arg A) j rfl hj2 fun e he => ?_
  repeat (first | with_reducible refine nn ?_ | with_reducible refine let_ ?_ | with_reducible refine brSome ?_ | with_reducible refine brF ?_ | with_reducible refine brT ?_ | ((with_reducible apply ldAt H 0); exact rfl; exact rfl) | ((with_reducible apply ldAt0 H 0); exact rfl; exact rfl) | ((with_reducible apply ldR (H.arg A)); assumption; (case hk => assumption); exact rfl) | ((with_reducible apply ldR0 (H.arg A)); assumption; (case hk => assumption); exact rfl) | ((with_reducible apply stAt H 0); exact rfl; exact rfl; intro h H) | ((with_reducible apply stAt0 H 0); exact rfl; exact rfl; intro h H) | ((with_reducible apply allocAt H); intro h b H) | ((with_reducible refine ⟨?_, ?_⟩); first | ((with_reducible apply ldAt H 0); exact rfl; exact rfl; exact rfl) | ((with_reducible apply ldAt0 H 0); exact rfl; exact rfl; exact rfl)))
  have hkd := (hk _ (List.getElem_mem hj2)).1
  have H : At hB h (fieldL d ty s1 s2 f ++ (.blk b 46 [.int .u8 acts[j].kind, .int .i64 acts[j].n] :: refL dr f.len f.skew X)) := H.mv 1 3
  refine law30_do_ok H ho hkd fun h4 s1 s2 H => ?_
  repeat (first | with_reducible refine nn ?_ | with_reducible refine let_ ?_ | with_reducible refine brSome ?_ | with_reducible refine brF ?_ | with_reducible refine brT ?_ | ((with_reducible apply ldAt H 3); exact rfl; exact rfl) | ((with_reducible apply ldAt0 H 3); exact rfl; exact rfl) | ((with_reducible apply stAt H 3); exact rfl; exact rfl; intro h H) | ((with_reducible apply stAt0 H 3); exact rfl; exact rfl; intro h H) | ((with_reducible apply allocAt H); intro h b H) | ((with_reducible refine ⟨?_, ?_⟩); first | ((with_reducible apply ldAt H 3); exact rfl; exact rfl; exact rfl) | ((with_reducible apply ldAt0 H 3); exact rfl; exact rfl; exact rfl)))
  have HR : RefAt hB h4 dr f j (fieldL d ty s1 s2 (actM f acts[j].kind acts[j].n).1 ++ [.blk b 46 [.int .u8 acts[j].kind, .int .i64 acts[j].n]]) := ⟨X, H.mv 4 9, Q, hX⟩
  refine law30_want_ok HR ho hi hkd fun h5 HR => ?_
  have hst := act_step ho acts[j].kind acts[j].n
  have ho' := ho.step hst (by omega)
  obtain ⟨o', hi'⟩ := hi.step hst
  obtain ⟨l1, l2, l3⟩ := step_len hst
  refine brN (bne_self_eq_false _) (brN (bne_self_eq_false _) ?_)
  generalize (actM f acts[j].kind acts[j].n).1 = f' at *
  obtain ⟨Y, H, Q', hY⟩ := HR
  have H : At hB h5 (fieldL d ty s1 s2 f' ++ refL dr f'.len f'.skew Y) := (H.mv 9 3).del 12
  have hfn : Y.sf.n = f'.fl.length := by rw [← hY]; exact H.n 11 rfl
  repeat (first | with_reducible refine nn ?_ | with_reducible refine let_ ?_ | with_reducible refine brSome ?_ | with_reducible refine brF ?_ | with_reducible refine brT ?_ | ((with_reducible apply ldAt H 3); exact rfl; exact rfl) | ((with_reducible apply ldAt0 H 3); exact rfl; exact rfl) | ((with_reducible apply stAt H 3); exact rfl; exact rfl; intro h H) | ((with_reducible apply stAt0 H 3); exact rfl; exact rfl; intro h H) | ((with_reducible apply allocAt H); intro h b H) | ((with_reducible refine ⟨?_, ?_⟩); first | ((with_reducible apply ldAt H 3); exact rfl; exact rfl; exact rfl) | ((with_reducible apply ldAt0 H 3); exact rfl; exact rfl; exact rfl)))
  refine lease_Flight_ok H ?_
  repeat (first | with_reducible refine nn ?_ | with_reducible refine let_ ?_ | with_reducible refine brSome ?_ | with_reducible refine brF ?_ | with_reducible refine brT ?_ | ((with_reducible apply ldAt H 3); exact rfl; exact rfl) | ((with_reducible apply ldAt0 H 3); exact rfl; exact rfl) | ((with_reducible apply stAt H 3); exact rfl; exact rfl; intro h H) | ((with_reducible apply stAt0 H 3); exact rfl; exact rfl; intro h H) | ((with_reducible apply allocAt H); intro h b H) | ((with_reducible refine ⟨?_, ?_⟩); first | ((with_reducible apply ldAt H 3); exact rfl; exact rfl; exact rfl) | ((with_reducible apply ldAt0 H 3); exact rfl; exact rfl; exact rfl)))
  refine brN (by rw [hfn]; exact bne_self_eq_false _) ?_
  refine loop1 (s1 := .one (.int .i64)) (fun (y : Int) g => ∃ i : Nat, y = i ∧ i ≤ k ∧ g = h5) (fun (y : Int) _ => (k - y).toNat) ⟨0, rfl, Nat.zero_le _, rfl⟩ fun _ (y : Int) g hI2 => ?_
  obtain ⟨i, rfl, hik, rfl⟩ := hI2
  refine brD (fun hc3 => ?_) fun hc3 => ?_
  · have hi2 : i < f'.l.length := by omega
    have nd := nd_get hi2
    have bC : i < Y.C.length := by rw [Q'.lc]; exact hi2
    have bT : i < Y.T.length := by rw [Q'.lt]; exact hi2
    have bW : i < Y.W.length := by rw [Q'.lw]; exact hi2
    have bP : i < Y.P.length := by rw [Q'.lp]; exact hi2
    have vC : cv Y.C i = f'.l[i].clock := (Q'.c i hi2).trans (by rw [nd])
    have vT : cv Y.T i = f'.l[i].till := (Q'.t i hi2).trans (by rw [nd])
    have vW : cv Y.W i = f'.l[i].whom := (Q'.w i hi2).trans (by rw [nd])
    have vP : cv Y.P i = f'.l[i].until_ := (Q'.p i hi2).trans (by rw [nd])
    refine lease_Promised_ok H (fun hb => by omega) fun i' hi3 hi4 => ?_
    obtain rfl : i = i' := by omega
    refine nn (ldAt H 3 rfl Y.sc rfl ?_)
    refine ixAt H 4 rfl i rfl bC fun e1 he1 => ?_
    refine ldI H 4 rfl he1 bC vC ?_
    refine lease_Clock_ok H (fun hb => by omega) fun i' hi3 hi4 => ?_
    obtain rfl : i = i' := by omega
    refine ⟨ldAt H 3 rfl Y.sc rfl rfl, ldI H 4 rfl he1 bC vC rfl, brN (bne_self_eq_false _) ?_⟩
    refine nn (ldAt H 3 rfl Y.st rfl ?_)
    refine ixAt H 7 rfl i rfl bT fun e2 he2 => ?_
    refine ldI H 7 rfl he2 bT vT ?_
    refine lease_Till_ok H (fun hb => by omega) fun i' hi3 hi4 => ?_
    obtain rfl : i = i' := by omega
    refine ⟨ldAt H 3 rfl Y.st rfl rfl, ldI H 7 rfl he2 bT vT rfl, brN (bne_self_eq_false _) ?_⟩
    refine nn (ldAt H 3 rfl Y.sc rfl ?_)
    refine ixAt H 4 rfl i rfl bC fun e3 he3 => ?_
    refine ldI H 4 rfl he3 bC vC ?_
    refine nn (ldAt H 3 rfl Y.st rfl ?_)
    refine ixAt H 7 rfl i rfl bT fun e4 he4 => ?_
    refine ldI H 7 rfl he4 bT vT ?_
    refine lease_Holds_ok H (fun hb => by omega) fun i' hi3 hi4 => ?_
    obtain rfl : i = i' := by omega
    refine ⟨ldAt H 3 rfl Y.sc rfl rfl, ldI H 4 rfl he3 bC vC rfl, ldAt H 3 rfl Y.st rfl rfl, ldI H 7 rfl he4 bT vT rfl, brN (by rw [beq_self_eq_true]; rfl) ?_⟩
    refine nn (ldAt H 3 rfl Y.sw rfl ?_)
    refine ixAt H 8 rfl i rfl bW fun e5 he5 => ?_
    refine ldI H 8 rfl he5 bW vW (brN (bne_self_eq_false _) ?_)
    refine nn (ldAt H 3 rfl Y.sp rfl ?_)
    refine ixAt H 9 rfl i rfl bP fun e6 he6 => ?_
    refine ldI H 9 rfl he6 bP vP (brN (bne_self_eq_false _) ?_)
    rw [w64 (by omega) (by omega)]
    exact ⟨⟨i + 1, by omega, by omega, rfl⟩, by omega⟩
  · rw [w64 (by omega) (by omega)]
    have ej : ((j + 1 : Nat) : Int) = (j : Int) + 1 := by omega
    exact ⟨⟨j + 1, f', s1, s2, o', Y, by omega, by omega, H, by rw [ej]; exact ho', hi', by omega, by rw [ej]; exact Q', hY⟩, by omega⟩
end Go.Proofs.Ytegbnmaglkpkjaa
