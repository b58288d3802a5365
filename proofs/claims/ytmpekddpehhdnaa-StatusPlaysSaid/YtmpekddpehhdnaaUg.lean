/-
  Layer 16 (status): StatusStamp over the heap alone.
-/
import Derived.Test.YtmpekddpehhdnaaUf
namespace Go.Proofs.Ytmpekddpehhdnaa
open Go

section
variable {l : List SRow} {N : Nat} {g : Int → Option Int}
theorem StInv.of (h : StInv l g) {l' : List SRow} {r : SRow} (hcur : ∀ x, cur l' x = if x = r.tx then some r else cur l x) {g' : Int → Option Int} (hg : ∀ x, x ≠ r.tx → g' x = g x) (hst : r.stamp = (g' r.tx).getD 0) (hgo : r.state = 1 → 1 ≤ r.stamp) : StInv l' g' := by
  refine ⟨fun x o ho => ?_, fun x ho => ?_, fun x o ho h1 => ?_⟩
  · rw [hcur] at ho
    split at ho
    · rename_i e; injection ho with ho; subst ho e; exact hst
    · rename_i e; rw [hg x e]; exact h.st x o ho
  · rw [hcur] at ho
    split at ho
    · cases ho
    · rename_i e; rw [hg x e]; exact h.no x ho
  · rw [hcur] at ho
    split at ho
    · injection ho with ho; subst ho; exact hgo h1
    · exact h.go x o ho h1
theorem stI {p : Prop} [Decidable p] {A : List SRow} {g1 g2 : Int → Option Int} (h1 : p → StInv A g1) (h2 : ¬ p → StInv A g2) : StInv A (if p then g1 else g2) := by
  split
  · rename_i h; exact h1 h
  · rename_i h; exact h2 h
def stG (l : List SRow) (g : Int → Option Int) (a : SAct) : Int → Option Int := if a.kind % 4 = 0 ∧ (sActM l a).2.2 = 0 ∧ (g a.tx).getD 0 = 0 ∧ (sActM l a).2.1 = 1 then updF g a.tx a.stamp else g
theorem updF_same (g : Int → Option Int) (x c : Int) : updF g x c x = some c := by unfold updF; rw [if_pos rfl]
theorem updF_other (g : Int → Option Int) {x y : Int} (c : Int) (h : y ≠ x) : updF g x c y = g y := by unfold updF; rw [if_neg h]
theorem StInv.act (h : StInv l g) (ho : SOk N l) (a : SAct) : StInv (sActM l a).1 (stG l g a) := by
  have upd : ∀ {o : SRow} {s hd : Int}, cur l a.tx = some o → o.state = 1 → StInv (setR l { o with state := s, heard := hd }) g := fun {o s hd} hc h1 => by
    have e := ((cur_iff ho.srt).1 hc).2
    refine h.of (r := { o with state := s, heard := hd }) (fun x => cur_set (r := { o with state := s, heard := hd }) (o := o) ho.srt (by show cur l o.tx = _; rw [e]; exact hc) x) (fun _ _ => rfl) ?_ fun _ => h.go _ o hc h1
    show o.stamp = (g o.tx).getD 0
    rw [e]; exact h.st _ o hc
  by_cases h0 : a.kind % 4 = 0
  · have ea : sActM l a = openM l a.tx a.attempt a.stamp a.now := by unfold sActM; rw [if_pos h0]
    have put : a.stamp ≥ 1 → StInv (putM l ⟨a.tx, a.attempt, a.stamp, 1, a.now⟩).1 (if (putM l ⟨a.tx, a.attempt, a.stamp, 1, a.now⟩).2.2 = 0 ∧ (g a.tx).getD 0 = 0 ∧ (putM l ⟨a.tx, a.attempt, a.stamp, 1, a.now⟩).2.1 = 1 then updF g a.tx a.stamp else g) := fun hst => by
      cases hc : cur l a.tx with
      | none =>
        rw [putM_none (r := ⟨a.tx, a.attempt, a.stamp, 1, a.now⟩) hc]
        rw [if_pos ⟨rfl, by rw [h.no _ hc]; rfl, rfl⟩]
        refine h.of (r := ⟨a.tx, a.attempt, a.stamp, 1, a.now⟩) (cur_ins (r := ⟨a.tx, a.attempt, a.stamp, 1, a.now⟩) ho.srt hc) (fun x hx => updF_other g _ hx) ?_ fun _ => hst
        show a.stamp = _
        rw [updF_same]; rfl
      | some o =>
        have hos := h.st _ o hc
        have hok := ho.ok o ((cur_iff ho.srt).1 hc).1
        unfold okRow at hok
        rw [putM_some (r := ⟨a.tx, a.attempt, a.stamp, 1, a.now⟩) hc]
        split
        · exact stI (fun x => absurd x.1 (by show ¬ (8 : Int) = 0; decide)) fun _ => h
        · have hcs := cur_set (r := ⟨a.tx, a.attempt, if o.stamp > 0 then o.stamp else a.stamp, 1, a.now⟩) ho.srt hc
          by_cases hp : o.stamp > 0
          · refine stI (fun x => absurd x.2.1 (by omega)) fun _ => h.of hcs (fun _ _ => rfl) ?_ fun _ => ?_
            · show (if o.stamp > 0 then o.stamp else a.stamp) = (g a.tx).getD 0
              rw [if_pos hp]; exact hos
            · show 1 ≤ (if o.stamp > 0 then o.stamp else a.stamp)
              rw [if_pos hp]; omega
          · refine stI (fun _ => h.of hcs (fun x hx => updF_other g _ hx) ?_ fun _ => ?_) fun x => absurd ⟨rfl, by omega, rfl⟩ x
            · show (if o.stamp > 0 then o.stamp else a.stamp) = (updF g a.tx a.stamp a.tx).getD 0
              rw [if_neg hp, updF_same]; rfl
            · show 1 ≤ (if o.stamp > 0 then o.stamp else a.stamp)
              rw [if_neg hp]; exact hst
    have none_ : ∀ {n e : Int}, e ≠ 0 → StInv l (if e = 0 ∧ (g a.tx).getD 0 = 0 ∧ n = 1 then updF g a.tx a.stamp else g) := fun he => by rw [if_neg fun x => he x.1]; exact h
    unfold stG
    rw [ea]
    have hs : (if a.kind % 4 = 0 ∧ (openM l a.tx a.attempt a.stamp a.now).2.2 = 0 ∧ (g a.tx).getD 0 = 0 ∧ (openM l a.tx a.attempt a.stamp a.now).2.1 = 1 then updF g a.tx a.stamp else g) = (if (openM l a.tx a.attempt a.stamp a.now).2.2 = 0 ∧ (g a.tx).getD 0 = 0 ∧ (openM l a.tx a.attempt a.stamp a.now).2.1 = 1 then updF g a.tx a.stamp else g) := by
      by_cases hh : (openM l a.tx a.attempt a.stamp a.now).2.2 = 0 ∧ (g a.tx).getD 0 = 0 ∧ (openM l a.tx a.attempt a.stamp a.now).2.1 = 1
      · rw [if_pos ⟨h0, hh⟩, if_pos hh]
      · rw [if_neg fun x => hh x.2, if_neg hh]
    rw [hs]
    unfold openM
    split
    · exact none_ (by show ¬ (1 : Int) = 0; decide)
    · rename_i hg
      have hst : a.stamp ≥ 1 := by omega
      cases hc : cur l a.tx with
      | none => rw [byHow_none hc]; exact put hst
      | some o =>
        rw [byHow_some hc]
        split
        · exact put hst
        · split
          · exact none_ (by show ¬ (9 : Int) = 0; decide)
          · split
            · exact none_ (by show ¬ (9 : Int) = 0; decide)
            · have hos := h.st _ o hc
              by_cases h1 : o.state = 1
              · have := h.go _ o hc h1
                exact stI (fun x => absurd x.2.1 (by omega)) fun _ => h
              · exact stI (fun x => absurd x.2.2 h1) fun _ => h
  · have eg : stG l g a = g := by unfold stG; rw [if_neg fun x => h0 x.1]
    rw [eg]
    unfold sActM
    rw [if_neg h0]
    split
    · unfold decideM
      split
      · exact h
      · cases hc : cur l a.tx with
        | none => rw [byHow_none hc]; exact h
        | some o =>
          rw [byHow_some hc]
          split
          · exact h
          · split
            · exact h
            · split
              · rename_i h1; exact upd (s := 2) (hd := o.heard) hc h1
              · split <;> exact h
    · split
      · unfold killM
        split
        · exact h
        · have put : StInv (putM l ⟨a.tx, a.attempt, 0, 3, a.now⟩).1 g := by
            cases hc : cur l a.tx with
            | none =>
              rw [putM_none (r := ⟨a.tx, a.attempt, 0, 3, a.now⟩) hc]
              refine h.of (r := ⟨a.tx, a.attempt, 0, 3, a.now⟩) (cur_ins (r := ⟨a.tx, a.attempt, 0, 3, a.now⟩) ho.srt hc) (fun _ _ => rfl) ?_ fun x => absurd x (by show ¬ (3 : Int) = 1; decide)
              show (0 : Int) = (g a.tx).getD 0
              rw [h.no _ hc]; rfl
            | some o =>
              have hos := h.st _ o hc
              have hok := ho.ok o ((cur_iff ho.srt).1 hc).1
              unfold okRow at hok
              rw [putM_some (r := ⟨a.tx, a.attempt, 0, 3, a.now⟩) hc]
              split
              · exact h
              · refine h.of (cur_set (r := ⟨a.tx, a.attempt, if o.stamp > 0 then o.stamp else 0, 3, a.now⟩) ho.srt hc) (fun _ _ => rfl) ?_ fun x => absurd x (by show ¬ (3 : Int) = 1; decide)
                show (if o.stamp > 0 then o.stamp else 0) = (g a.tx).getD 0
                split <;> omega
          cases hc : cur l a.tx with
          | none => rw [byHow_none hc]; exact put
          | some o =>
            rw [byHow_some hc]
            split
            · exact put
            · split
              · exact h
              · split
                · rename_i h1; exact upd (s := 3) (hd := o.heard) hc h1
                · split <;> exact h
      · unfold beatM
        split
        · exact h
        · cases hc : cur l a.tx with
          | none => rw [byHow_none hc]; exact h
          | some o =>
            rw [byHow_some hc]
            split
            · exact h
            · split
              · exact h
              · split
                · rename_i h1; exact upd (s := o.state) hc h1
                · exact h
end
set_option maxHeartbeats 3200000 in
theorem law16_StatusStamp_ok {l : Sl} {now wait : Int} {hB : Heap} {acts : List SAct} (w0 : ArgAct6 hB l acts) (w1 : -9223372036854775808 ≤ now ∧ now ≤ 9223372036854775807) (w2 : -9223372036854775808 ≤ wait ∧ wait ≤ 9223372036854775807) : C_law16_StatusStamp l now wait hB fun r h' => r = true ∧ Ext hB.size hB h' := by
  refine A_law16_StatusStamp ?_
  unfold S_law16_StatusStamp
  obtain ⟨A, hk⟩ := w0
  have hn := rdn A
  refine law16_fixed_ok fun h1 e1 => brN rfl (brD (fun _ => ⟨rfl, e1⟩) fun hc => ?_)
  refine status_New_ok (At.of_ext e1) fun h2 d ty H => ?_
  refine mkMap (A := keyI) (e := 3) H fun h3 m H => ?_
  have H := H.mv 1 2
  refine loop1 (s1 := .one (.int .i64)) (fun (x : Int) h5 => ∃ (j : Nat) (s : Sl) (t : List SRow) (g : Int → Option Int), x = j ∧ j ≤ acts.length ∧ At hB h5 (tabL d ty s t ++ [mapR keyI 3 m j g]) ∧ SOk j t ∧ StInv t g) (fun (x : Int) _ => (acts.length - x).toNat)
    ⟨0, _, [], _, rfl, Nat.zero_le _, H, new_sok, ⟨(fun x o ho => by cases ho), fun _ _ => rfl, (fun x o ho => by cases ho)⟩⟩ fun _ (x : Int) h5 hI => ?_
  obtain ⟨j, s, t, g, rfl, hj, H, ho, hg⟩ := hI
  refine brD (fun hc2 => ?_) fun hc2 => ?_
  · have hj2 : j < acts.length := by omega
    obtain ⟨hkd, htx, hat, hstm⟩ := hk _ (List.getElem_mem hj2)
    refine ixR (H.arg A) j rfl hj2 fun e he => ?_
    repeat (first | with_reducible refine nn ?_ | with_reducible refine let_ ?_ | with_reducible refine brSome ?_ | with_reducible refine brF ?_ | with_reducible refine brT ?_ | ((with_reducible apply ldAt H 0); exact rfl; exact rfl) | ((with_reducible apply ldAt0 H 0); exact rfl; exact rfl) | ((with_reducible apply ldR (H.arg A)); assumption; (case hk => assumption); exact rfl) | ((with_reducible apply ldR0 (H.arg A)); assumption; (case hk => assumption); exact rfl) | ((with_reducible apply stAt H 0); exact rfl; exact rfl; intro h H) | ((with_reducible apply stAt0 H 0); exact rfl; exact rfl; intro h H) | ((with_reducible apply allocAt H); intro h b H) | ((with_reducible refine ⟨?_, ?_⟩); first | ((with_reducible apply ldAt H 0); exact rfl; exact rfl; exact rfl) | ((with_reducible apply ldAt0 H 0); exact rfl; exact rfl; exact rfl)))
    have H := H.mv 1 2
    refine law16_do_ok (a := acts[j]) (F := _ :: _) H ho (by omega) hkd.1 fun h6 s H => ?_
    have ho' := ho.act acts[j]
    have hg' := hg.act ho acts[j]
    unfold stG at hg'
    generalize hres : sActM t acts[j] = res at *
    refine join1 (s1 := .one .bool) (fun (q : Bool) h7 => h7 = h6 ∧ (q = true ↔ (acts[j].kind % 4 = 0 ∧ res.2.2 = 0 ∧ (g acts[j].tx).getD 0 = 0 ∧ res.2.1 = 1))) (fun _ (q : Bool) h7 hJ => ?_) ?_
    · obtain ⟨rfl, hb⟩ := hJ
      obtain ⟨g', hg2⟩ : ∃ g', g' = (if acts[j].kind % 4 = 0 ∧ res.2.2 = 0 ∧ (g acts[j].tx).getD 0 = 0 ∧ res.2.1 = 1 then updF g acts[j].tx acts[j].stamp else g) := ⟨_, rfl⟩
      rw [← hg2] at hg'
      refine join0 (fun h8 => At hB h8 (tabL d ty s res.1 ++ [.blk b 74 (eSAct.cells acts[j]), mapR keyI 3 m (j + 1) g'])) (fun _ h8 H => ?_) ?_
      · have next : ∀ {h' : Heap} {M : List Res}, At hB h' (tabL d ty s res.1 ++ [.blk b 74 (eSAct.cells acts[j]), mapR keyI 3 m (j + 1) g'] ++ M) → (∃ (j_1 : Nat) (s : Sl) (t : List SRow) (g : Int → Option Int), IntKind.i64.wrap ((j : Int) + 1) = j_1 ∧ j_1 ≤ acts.length ∧ At hB h' (tabL d ty s t ++ [mapR keyI 3 m j_1 g]) ∧ SOk j_1 t ∧ StInv t g) ∧ ((acts.length : Int) - IntKind.i64.wrap ((j : Int) + 1)).toNat < ((acts.length : Int) - (j : Int)).toNat := fun H => by
          rw [w64 (by omega) (by omega)]
          exact ⟨⟨j + 1, s, res.1, g', by omega, by omega, (H.del 2).keep 3, ho', hg'⟩, by omega⟩
        refine ldAt (j := 1) H 2 rfl acts[j].tx rfl ?_
        have hrow : ∀ (o : SRow) (h9 : Heap), cur res.1 acts[j].tx = some o → At hB h9 (tabL d ty s res.1 ++ [.blk b 74 (eSAct.cells acts[j]), mapR keyI 3 m (j + 1) g']) → True := fun _ _ _ _ => trivial
        refine status_Row_ok H ho' (by omega) (fun hcn h9 H => ?_) fun o h9 hco H => ?_
        · refine allocAt (cs := [.int .i64 0, .int .i64 0, .int .i64 0, .int .i64 0, .int .i64 0]) H fun h10 c H => ?_
          repeat (first | with_reducible refine nn ?_ | with_reducible refine let_ ?_ | with_reducible refine brSome ?_ | with_reducible refine brF ?_ | with_reducible refine brT ?_ | ((with_reducible apply ldAt H 0); exact rfl; exact rfl) | ((with_reducible apply ldAt0 H 0); exact rfl; exact rfl) | ((with_reducible apply stAt H 0); exact rfl; exact rfl; intro h H) | ((with_reducible apply stAt0 H 0); exact rfl; exact rfl; intro h H) | ((with_reducible apply allocAt H); intro h b H) | ((with_reducible refine ⟨?_, ?_⟩); first | ((with_reducible apply ldAt H 0); exact rfl; exact rfl; exact rfl) | ((with_reducible apply ldAt0 H 0); exact rfl; exact rfl; exact rfl)))
          exact next ((H.mv 1 4))
        · refine allocAt (cs := [.int .i64 0, .int .i64 0, .int .i64 0, .int .i64 0, .int .i64 0]) H fun h10 c H => ?_
          repeat (first | with_reducible refine nn ?_ | with_reducible refine let_ ?_ | with_reducible refine brSome ?_ | with_reducible refine brF ?_ | with_reducible refine brT ?_ | ((with_reducible apply ldAt H 0); exact rfl; exact rfl) | ((with_reducible apply ldAt0 H 0); exact rfl; exact rfl) | ((with_reducible apply stAt H 0); exact rfl; exact rfl; intro h H) | ((with_reducible apply stAt0 H 0); exact rfl; exact rfl; intro h H) | ((with_reducible apply allocAt H); intro h b H) | ((with_reducible refine ⟨?_, ?_⟩); first | ((with_reducible apply ldAt H 0); exact rfl; exact rfl; exact rfl) | ((with_reducible apply ldAt0 H 0); exact rfl; exact rfl; exact rfl)))
          refine ldAt (j := 1) H 3 rfl acts[j].tx rfl ?_
          refine lookM (A := keyI) mapII H 4 rfl acts[j].tx htx rfl ?_
          have := hg'.st _ o hco
          refine brN (by rw [← this]; simp) ?_
          exact next ((H.mv 1 4))
      · refine brB (fun hq => ?_) fun hq => ?_
        · have hcond := hb.1 hq
          rw [if_pos hcond] at hg2
          refine ldAt (j := 1) H 2 rfl acts[j].tx rfl (ldAt (j := 3) H 2 rfl acts[j].stamp rfl ?_)
          refine updM (A := keyI) mapII H 3 rfl (by omega) acts[j].tx htx rfl acts[j].stamp (wf64 hstm.1 hstm.2) fun h9 H => ?_
          rw [hg2]
          exact H
        · have hcond : ¬ _ := fun x => by have := hb.2 x; rw [hq] at this; cases this
          rw [if_neg hcond] at hg2
          rw [hg2]
          exact H.as_ 3 rfl (mapR keyI 3 m (j + 1) g) (by obtain ⟨D, h1, h2⟩ := H.get 3 rfl; exact ⟨D, h1.mono (Nat.le_succ _), h2⟩) (fun g hg => hg)
    · refine ldAt0 H 2 rfl acts[j].kind rfl (nz (by decide) ?_)
      rw [rem_nonneg hkd.1]
      refine br beq_iff_eq (fun c1 => ?_) fun c1 => ⟨rfl, fun x => by (cases x), fun x => absurd x.1 c1⟩
      refine br beq_iff_eq (fun c2 => ?_) fun c2 => ⟨rfl, fun x => by (cases x), fun x => absurd x.2.1 c2⟩
      refine ldAt (j := 1) H 2 rfl acts[j].tx rfl ?_
      refine lookM (A := keyI) mapII H 3 rfl acts[j].tx htx rfl ?_
      refine br beq_iff_eq (fun c3 => ?_) fun c3 => ⟨rfl, fun x => by (cases x), fun x => absurd x.2.2.1 c3⟩
      refine ⟨rfl, ?_⟩
      rw [beq_iff_eq]
      exact ⟨fun x => ⟨c1, c2, c3, x⟩, fun x => x.2.2.2⟩
  · have hln := ho.len
    refine status_Silent_ok H ho (by omega) fun r h6 H => ?_
    have hrn : r.n = (silM t now wait).length := H.n 0 rfl
    refine join1 (s1 := .one .bool) (fun (q : Bool) h7 => h7 = h6 ∧ (q = true ↔ (now < 0 ∨ now > 1099511627776 ∨ wait < 0 ∨ wait > 1099511627776))) (fun _ (q : Bool) h7 hJ => ?_) ?_
    · obtain ⟨rfl, hq⟩ := hJ
      refine brB (fun hqt => ?_) fun hqf => ?_
      · refine ⟨?_, H.ext⟩
        rw [hrn]
        unfold silM
        rw [if_pos (hq.1 hqt)]
        rfl
      · have hnq : ¬ (now < 0 ∨ now > 1099511627776 ∨ wait < 0 ∨ wait > 1099511627776) := fun x => by rw [hq.2 x] at hqf; cases hqf
        have esil : silM t now wait = t.filter (silB now wait) := by unfold silM; rw [if_neg hnq]
        rw [esil] at H hrn
        refine status_Rows_ok (F := _ :: _) (H.mv 1 2) (by omega) fun r8 h8 H => ?_
        have hr8 : r8.n = t.length := H.n 0 rfl
        refine loop2 (s1 := .one (.int .i64)) (s2 := .one (.int .i64)) (fun (i x : Int) h9 => ∃ k : Nat, x = k ∧ k ≤ t.length ∧ i = (((t.take k).filter (silB now wait)).length : Nat) ∧ At hB h9 (.own r8 5 (eRow.fl t) :: (tabL d ty s t ++ [Res.own r 5 (eRow.fl (t.filter (silB now wait)))]))) (fun _ (x : Int) _ => (t.length - x).toNat)
          ⟨0, rfl, Nat.zero_le _, rfl, H.keep 4⟩ fun _ (i x : Int) h9 hI => ?_
        obtain ⟨k, rfl, hk2, rfl, H⟩ := hI
        refine brD (fun hc3 => ?_) fun hc3 => ?_
        · have hk3 : k < t.length := by omega
          have hok := ho.ok _ (List.getElem_mem hk3)
          unfold okRow rightB at hok
          have fl : (t.take (k + 1)).filter (silB now wait) = (t.take k).filter (silB now wait) ++ (if silB now wait t[k] = true then [t[k]] else []) := by
            rw [take_snoc t k hk3, List.filter_append]
            congr 1
            cases hsb : silB now wait t[k] <;> simp [hsb]
          have hpre : t.filter (silB now wait) = (t.take (k + 1)).filter (silB now wait) ++ (t.drop (k + 1)).filter (silB now wait) := by rw [← List.filter_append, List.take_append_drop]
          have hfk : ((t.take k).filter (silB now wait)).length ≤ k := Nat.le_trans (List.length_filter_le ..) (by rw [List.length_take]; omega)
          refine ixAt H 0 rfl k rfl hk3 fun e he => ?_
          repeat (first | with_reducible refine nn ?_ | with_reducible refine let_ ?_ | with_reducible refine brSome ?_ | with_reducible refine brF ?_ | with_reducible refine brT ?_ | ((with_reducible apply ldAt H 0); exact rfl; exact rfl) | ((with_reducible apply ldAt0 H 0); exact rfl; exact rfl) | ((with_reducible apply ldEl H 0); exact rfl; assumption; (case hk => assumption); exact rfl) | ((with_reducible apply ldEl0 H 0); exact rfl; assumption; (case hk => assumption); exact rfl) | ((with_reducible apply ldElS H 0); exact rfl; assumption; (case hk => assumption); exact rfl) | ((with_reducible apply ldElS0 H 0); exact rfl; assumption; (case hk => assumption); exact rfl) | ((with_reducible apply stAt H 0); exact rfl; exact rfl; intro h H) | ((with_reducible apply stAt0 H 0); exact rfl; exact rfl; intro h H) | ((with_reducible apply stElS (E := eRow) ⟨_, _, _, _, _⟩ H 0); exact rfl; assumption; (case hk => assumption); exact rfl; (first | exact rfl | (dsimp only [eRow, List.set_cons_succ, List.set_cons_zero] <;> exact rfl)); intro h H) | ((with_reducible apply stElS0 (E := eRow) ⟨_, _, _, _, _⟩ H 0); exact rfl; assumption; (case hk => assumption); (first | exact rfl | (dsimp only [eRow, List.set_cons_succ, List.set_cons_zero] <;> exact rfl)); intro h H) | ((with_reducible apply stEl (E := eRow) ⟨_, _, _, _, _⟩ H 0); exact rfl; assumption; (case hk => assumption); exact rfl; (first | exact rfl | (dsimp only [eRow, List.set_cons_succ, List.set_cons_zero] <;> exact rfl)); intro h H) | ((with_reducible apply stEl0 (E := eRow) ⟨_, _, _, _, _⟩ H 0); exact rfl; assumption; (case hk => assumption); (first | exact rfl | (dsimp only [eRow, List.set_cons_succ, List.set_cons_zero] <;> exact rfl)); intro h H) | ((with_reducible apply allocAt H); intro h b H) | ((with_reducible refine ⟨?_, ?_⟩); first | ((with_reducible apply ldAt H 0); exact rfl; exact rfl; exact rfl) | ((with_reducible apply ldAt0 H 0); exact rfl; exact rfl; exact rfl) | ((with_reducible apply ldEl H 0); exact rfl; assumption; (case hk => assumption); exact rfl; exact rfl) | ((with_reducible apply ldEl0 H 0); exact rfl; assumption; (case hk => assumption); exact rfl; exact rfl) | ((with_reducible apply ldElS H 0); exact rfl; assumption; (case hk => assumption); exact rfl; exact rfl) | ((with_reducible apply ldElS0 H 0); exact rfl; assumption; (case hk => assumption); exact rfl; exact rfl)))
          refine join1 (s1 := .one .bool) (fun (q : Bool) h10 => h10 = h ∧ q = silB now wait t[k]) (fun _ (q : Bool) h10 hJ => ?_) ?_
          · obtain ⟨rfl, rfl⟩ := hJ
            refine brB (fun hsb => ?_) fun hsb => ?_
            · rw [hsb, if_pos rfl] at fl
              have hlt : ((t.take k).filter (silB now wait)).length < (t.filter (silB now wait)).length := by rw [hpre, fl, List.length_append, List.length_append]; simp; omega
              refine brD (fun hge => by omega) fun _ => ?_
              have hget : (t.filter (silB now wait))[((t.take k).filter (silB now wait)).length] = t[k] := by
                have : (t.filter (silB now wait))[((t.take k).filter (silB now wait)).length]? = some t[k] := by
                  rw [hpre, fl, List.append_assoc, List.getElem?_append_right (Nat.le_refl _), Nat.sub_self]; rfl
                obtain ⟨_, e⟩ := List.getElem?_eq_some_iff.1 this
                exact e
              refine ixAt H 4 rfl _ rfl hlt fun e he => ?_
              refine ldEl0 H 4 rfl he hlt t[k].tx (by rw [hget]; rfl) (ldEl (j := 1) H 4 rfl he hlt t[k].attempt (by rw [hget]; rfl) (ldEl (j := 2) H 4 rfl he hlt t[k].stamp (by rw [hget]; rfl) (ldEl (j := 3) H 4 rfl he hlt t[k].state (by rw [hget]; rfl) (ldEl (j := 4) H 4 rfl he hlt t[k].heard (by rw [hget]; rfl) ?_))))
              repeat (first | with_reducible refine nn ?_ | with_reducible refine let_ ?_ | with_reducible refine brSome ?_ | with_reducible refine brF ?_ | with_reducible refine brT ?_ | ((with_reducible apply ldAt H 0); exact rfl; exact rfl) | ((with_reducible apply ldAt0 H 0); exact rfl; exact rfl) | ((with_reducible apply stAt H 0); exact rfl; exact rfl; intro h H) | ((with_reducible apply stAt0 H 0); exact rfl; exact rfl; intro h H) | ((with_reducible apply allocAt H); intro h b H) | ((with_reducible refine ⟨?_, ?_⟩); first | ((with_reducible apply ldAt H 0); exact rfl; exact rfl; exact rfl) | ((with_reducible apply ldAt0 H 0); exact rfl; exact rfl; exact rfl)))
              refine opNeq (us := eRow.cells t[k]) (vs := eRow.cells t[k]) (by kernel_rfl) (brN (by rw [(row_eqL _ _).2 rfl]; rfl) (let_ ?_))
              rw [w64 (n := ((((t.take k).filter (silB now wait)).length : Nat) : Int) + 1) (by omega) (by omega), w64 (by omega) (by omega)]
              refine ⟨⟨k + 1, by omega, by omega, ?_, H.tail⟩, by omega⟩
              rw [fl, List.length_append]; rfl
            · rw [hsb, if_neg (by decide), List.append_nil] at fl
              rw [w64 (by omega) (by omega)]
              refine ⟨⟨k + 1, by omega, by omega, by rw [fl], H.tail⟩, by omega⟩
          · repeat (first | with_reducible refine nn ?_ | with_reducible refine let_ ?_ | with_reducible refine brSome ?_ | with_reducible refine brF ?_ | with_reducible refine brT ?_ | ((with_reducible apply ldAt H 0); exact rfl; exact rfl) | ((with_reducible apply ldAt0 H 0); exact rfl; exact rfl) | ((with_reducible apply stAt H 0); exact rfl; exact rfl; intro h H) | ((with_reducible apply stAt0 H 0); exact rfl; exact rfl; intro h H) | ((with_reducible apply allocAt H); intro h b H) | ((with_reducible refine ⟨?_, ?_⟩); first | ((with_reducible apply ldAt H 0); exact rfl; exact rfl; exact rfl) | ((with_reducible apply ldAt0 H 0); exact rfl; exact rfl; exact rfl)))
            refine br beq_iff_eq (fun c1 => ?_) fun c1 => ⟨rfl, (decide_eq_false fun x => c1 x.1).symm⟩
            repeat (first | with_reducible refine nn ?_ | with_reducible refine let_ ?_ | with_reducible refine brSome ?_ | with_reducible refine brF ?_ | with_reducible refine brT ?_ | ((with_reducible apply ldAt H 0); exact rfl; exact rfl) | ((with_reducible apply ldAt0 H 0); exact rfl; exact rfl) | ((with_reducible apply stAt H 0); exact rfl; exact rfl; intro h H) | ((with_reducible apply stAt0 H 0); exact rfl; exact rfl; intro h H) | ((with_reducible apply allocAt H); intro h b H) | ((with_reducible refine ⟨?_, ?_⟩); first | ((with_reducible apply ldAt H 0); exact rfl; exact rfl; exact rfl) | ((with_reducible apply ldAt0 H 0); exact rfl; exact rfl; exact rfl)))
            rw [w64 (n := now - t[k].heard) (by omega) (by omega)]
            refine ⟨rfl, ?_⟩
            unfold silB
            rw [decide_eq_decide]
            exact ⟨fun x => ⟨c1, x⟩, fun x => x.2⟩
        · refine ⟨?_, H.ext⟩
          have hkl : k = t.length := by omega
          rw [hkl, List.take_length, hrn]
          simp
    · refine brD (fun c1 => ⟨rfl, fun _ => .inl c1, fun _ => rfl⟩) fun c1 => brD (fun c2 => ⟨rfl, fun _ => .inr (.inl c2), fun _ => rfl⟩) fun c2 => brD (fun c3 => ⟨rfl, fun _ => .inr (.inr (.inl c3)), fun _ => rfl⟩) fun c3 => ⟨rfl, ?_⟩
      rw [decide_eq_true_eq]
      omega
theorem ArgAct6.old {hB : Heap} {s : Sl} {acts : List SAct} (h : ArgAct6 hB s acts) : ArgAct hB s acts := ⟨h.1, fun a ha => (h.2 a ha).1⟩
theorem law16_StatusFrom_ok {l more raw : Sl} {hB : Heap} {xa xb : List SAct} {xs : List SRow} (w0 : ArgAct6 hB l xa) (w1 : ArgAct6 hB more xb) (w2 : RdS hB 5 raw (eRow.fl xs)) :
    C_law16_StatusFrom l more raw hB fun r h' => r = true ∧ Ext hB.size hB h' := law16_StatusFrom_core w0.old w1.old w2
end Go.Proofs.Ytmpekddpehhdnaa
