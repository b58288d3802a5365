/-
  Layer 14 (chase): ChaseOldest over the heap alone.
-/
import Derived.Test.YtmpekddpehhdnaaKm
namespace Go.Proofs.Ytmpekddpehhdnaa
open Go

structure OInv (st : List Int) (j : Nat) (C : CF) : Prop where
  has : ∀ x, hasN C.N x ↔ 0 ≤ x ∧ x < j
  stamp : ∀ i : Nat, (hi : i < st.length) → i < j → (nd C.N i).stamp = st[i]
  len : C.N.length = j
section
variable {st : List Int} {j : Nat} {C : CF} {s k : Nat}
theorem OInv.rest (h : OInv st j C) (fl : List CP) (vs : List Int) (seen : Int → Int → Int) : OInv st j ⟨C.N, fl, vs, seen⟩ := ⟨h.has, h.stamp, h.len⟩
theorem OInv.upd (h : OInv st j C) (hu : UniqN C.N) {x : Int} {f : CN → CN} (hf : ∀ n, (f n).id = n.id) (hs : ∀ n, (f n).stamp = n.stamp) (hx : hasN C.N x) (fl : List CP) (vs : List Int) : OInv st j ⟨updN C.N x f, fl, vs, C.seen⟩ := by
  refine ⟨fun y => (hasN_upd hf).trans (h.has y), fun i hi hij => ?_, by show (updN ..).length = _; rw [updN_len]; exact h.len⟩
  show (nd (updN C.N x f) i).stamp = _
  rw [nd_upd hf hu hx]
  split
  · rename_i e; rw [hs, ← e]; exact h.stamp i hi hij
  · exact h.stamp i hi hij
theorem OInv.node (h : OInv st j C) (hu : UniqN C.N) (hj : j < st.length) (h40 : st.length ≤ 40) (hst : 0 ≤ st[j] ∧ st[j] ≤ 255) : (kNode 8 C j st[j] ((j : Int) % 8)).2 = 0 ∧ OInv st (j + 1) (kNode 8 C j st[j] ((j : Int) % 8)).1 ∧ (kNode 8 C j st[j] ((j : Int) % 8)).1.fl = C.fl := by
  have hn : ¬ hasN C.N (j : Int) := fun x => by have := (h.has _).1 x; omega
  have hl := h.len
  unfold kNode
  rw [if_neg (by omega), if_neg hn, if_neg (by omega)]
  refine ⟨rfl, ⟨fun x => ?_, fun i hi hij => ?_, by show (C.N ++ [_]).length = _; rw [List.length_append, List.length_singleton]; omega⟩, rfl⟩
  · show hasN (C.N ++ [_]) x ↔ _
    rw [hasN_app, h.has]
    show _ ∨ (j : Int) = x ↔ _
    omega
  · show (nd (C.N ++ [_]) i).stamp = _
    rw [nd_app hu hn]
    by_cases e : i = j
    · subst e; rw [if_pos rfl]
    · rw [if_neg (c := ((i : Int) = _)) (by show ¬ (i : Int) = (j : Int); omega)]
      exact h.stamp i hi (by omega)
theorem OInv.edge (h : OInv st j C) (hu : UniqN C.N) (f t : Int) : OInv st j (kEdge C f t).1 ∧ (kEdge C f t).1.fl = C.fl := by
  unfold kEdge
  split
  · exact ⟨h, rfl⟩
  · split
    · exact ⟨h, rfl⟩
    · rename_i hn
      exact ⟨h.upd hu (f := fun n => { n with to := insI n.to t }) (fun _ => rfl) (fun _ => rfl) (Decidable.not_not.1 hn).1 _ _, rfl⟩
theorem OInv.begin_ (h : OInv st j C) (hu : UniqN C.N) (id : Int) : OInv st j (kBegin C id).1 := by
  unfold kBegin
  split
  · exact h
  · rename_i hn
    exact (h.upd hu (f := fun n => { n with round := n.round + 1 }) (fun _ => rfl) (fun _ => rfl) (Decidable.not_not.1 hn) C.fl C.vs).rest _ _ _
theorem OInv.deliver (h : OInv st j C) (i : Int) : OInv st j (kDeliver C i).1 := by
  unfold kDeliver
  split
  · unfold kDlv
    show OInv st j (if _ then _ else _ : CF × Int × Bool).1
    split
    · exact h.rest _ _ _
    · split
      · exact h.rest _ _ _
      · exact h.rest _ _ _
  · exact h
end
set_option maxHeartbeats 1600000 in
set_option maxRecDepth 100000 in
theorem law14_ChaseOldest_ok {stamps edges : Sl} {hB : Heap} {st : List Int} {es : List CE} (w0 : RdS hB 1 stamps (eU8.fl st) ∧ ∀ x ∈ st, 0 ≤ x ∧ x ≤ 255) (B : RdS hB 2 edges (eCE.fl es)) : C_law14_ChaseOldest stamps edges hB fun r h' => r = true ∧ Ext hB.size hB h' := by
  refine A_law14_ChaseOldest ?_
  unfold S_law14_ChaseOldest
  obtain ⟨A, hst⟩ := w0
  have hn := rdn A
  have hn2 := rdn B
  refine law14_fixed_ok fun h1 e1 => brN rfl ?_
  refine join1 (s1 := .one .bool) (fun (b : Bool) h3 => (b = false → stamps.n ≤ 40 ∧ edges.n ≤ 200) ∧ h3 = h1) (fun _ (b : Bool) h3 hJ => ?_) ?_
  rotate_left
  · refine brD (fun h4 => ⟨fun x => (by cases x), rfl⟩) fun h4 => ⟨fun x => ?_, rfl⟩
    have := of_decide_eq_false x
    omega
  obtain ⟨hb, rfl⟩ := hJ
  refine brB (fun hbt => ⟨rfl, e1⟩) fun hbf => ?_
  obtain ⟨h40, h200⟩ := hb hbf
  refine chase_New_ok (At.of_ext e1) (fun hbad => by omega) fun s hs _ _ h2 d H => ?_
  obtain rfl : s = 8 := by omega
  refine loop1 (s1 := .one (.int .i64)) (fun (x : Int) h5 => ∃ (j : Nat) (C : CF), x = j ∧ j ≤ st.length ∧ FldAt hB h5 d 8 0 C [] ∧ COk 8 j C ∧ OInv st j C ∧ C.fl = []) (fun (x : Int) _ => (st.length - x).toNat)
    ⟨0, kNew, rfl, Nat.zero_le _, H, new_cok 8, ⟨fun x => ⟨fun ⟨n, hn, _⟩ => (by cases hn), fun h => by omega⟩, (fun i _ hi => absurd hi (Nat.not_lt_zero _)), rfl⟩, rfl⟩ fun _ (x : Int) h5 hI => ?_
  obtain ⟨j, C, rfl, hj, H, ho, hi, hfl⟩ := hI
  refine brD (fun hc => ?_) fun hc => ?_
  · have hj2 : j < st.length := by omega
    have hsj := hst _ (List.getElem_mem hj2)
    refine ixR (H.ats.arg A) j rfl hj2 fun e he => ?_
    refine ldR0 (H.ats.arg A) he hj2 st[j] rfl ?_
    refine nz (by decide) ?_
    rw [w64 (n := st[j]) (by omega) (by omega), rem_nonneg (by omega)]
    refine chase_Node_ok H ho fun h6 H => ?_
    obtain ⟨n1, n2, n3⟩ := hi.node ho.uniq hj2 (by omega) hsj
    refine brN (by rw [n1]; rfl) ?_
    rw [w64 (by omega) (by omega)]
    exact ⟨⟨j + 1, _, by omega, by omega, H, ho.node (by omega) _ _, n2, n3.trans hfl⟩, by omega⟩
  have hjl : j = st.length := by omega
  subst hjl
  refine loop1 (s1 := .one (.int .i64)) (fun (x : Int) h6 => ∃ (j : Nat) (C : CF), x = j ∧ j ≤ es.length ∧ FldAt hB h6 d 8 0 C [] ∧ COk 8 (st.length + j) C ∧ OInv st st.length C ∧ C.fl = []) (fun (x : Int) _ => (es.length - x).toNat)
    ⟨0, C, rfl, Nat.zero_le _, H, ho, hi, hfl⟩ fun _ (x : Int) h6 hI => ?_
  clear H ho hi hfl
  obtain ⟨j, C, rfl, hj, H, ho, hi, hfl⟩ := hI
  refine brD (fun hc2 => ?_) fun hc2 => ?_
  · have hj2 : j < es.length := by omega
    refine ixR (H.ats.arg B) j rfl hj2 fun e he => ?_
    obtain ⟨X, H, back⟩ := H.raw
    repeat (first | with_reducible refine nn ?_ | with_reducible refine let_ ?_ | with_reducible refine brSome ?_ | with_reducible refine brF ?_ | with_reducible refine brT ?_ | ((with_reducible apply ldAt H 0); exact rfl; exact rfl) | ((with_reducible apply ldAt0 H 0); exact rfl; exact rfl) | ((with_reducible apply ldR (H.arg B)); assumption; (case hk => assumption); exact rfl) | ((with_reducible apply ldR0 (H.arg B)); assumption; (case hk => assumption); exact rfl) | ((with_reducible apply stAt H 0); exact rfl; exact rfl; intro h H) | ((with_reducible apply stAt0 H 0); exact rfl; exact rfl; intro h H) | ((with_reducible apply allocAt H); intro h b H) | ((with_reducible refine ⟨?_, ?_⟩); first | ((with_reducible apply ldAt H 0); exact rfl; exact rfl; exact rfl) | ((with_reducible apply ldAt0 H 0); exact rfl; exact rfl; exact rfl)))
    have H := (back _ [_] H).sub (F' := []) (List.nil_sublist _)
    refine chase_Edge_ok H ho fun h7 H => ?_
    obtain ⟨n2, n3⟩ := hi.edge ho.uniq es[j].from_ es[j].to
    rw [w64 (by omega) (by omega)]
    exact ⟨⟨j + 1, _, by omega, by omega, H, ho.edge _ _, n2, n3.trans hfl⟩, by omega⟩
  have hjl : j = es.length := by omega
  subst hjl
  refine loop1 (s1 := .one (.int .i64)) (fun (x : Int) h7 => ∃ (j : Nat) (C : CF), x = j ∧ j ≤ st.length ∧ FldAt hB h7 d 8 0 C [] ∧ COk 8 (st.length + es.length + j) C ∧ OInv st st.length C ∧ C.fl.length ≤ 64 * j) (fun (x : Int) _ => (st.length - x).toNat)
    ⟨0, C, rfl, Nat.zero_le _, H, ho, hi, by rw [hfl]; exact Nat.le_refl _⟩ fun _ (x : Int) h7 hI => ?_
  clear H ho hi hfl
  obtain ⟨j, C, rfl, hj, H, ho, hi, hfl⟩ := hI
  refine brD (fun hc3 => ?_) fun hc3 => ?_
  · refine chase_Begin_ok H ho (by omega) (by omega) fun h8 H => ?_
    have hl := begin_len14 ho (j : Int)
    rw [w64 (by omega) (by omega)]
    exact ⟨⟨j + 1, _, by omega, by omega, H, ho.begin_ _, hi.begin_ ho.uniq _, by omega⟩, by omega⟩
  have hjl : j = st.length := by omega
  subst hjl
  refine loop1 (s1 := .one (.int .i64)) (fun (x : Int) h8 => ∃ (j : Nat) (C : CF), x = j ∧ (j : Int) ≤ 3000 ∧ FldAt hB h8 d 8 j C [] ∧ COk 8 (st.length + es.length + st.length) C ∧ OInv st st.length C ∧ C.fl.length ≤ 64 * st.length + 64 * j) (fun (x : Int) _ => (3000 - x).toNat)
    ⟨0, C, rfl, by decide, H, ho, hi, by omega⟩ fun _ (x : Int) h8 hI => ?_
  clear H ho hi hfl
  obtain ⟨j, C, rfl, hj, H, ho, hi, hfl⟩ := hI
  refine brD (fun hc4 => ?_) fun hc4 => ⟨rfl, H.ats.ext⟩
  refine chase_Flight_ok H (by omega) fun r6 h9 H => ?_
  have hr6 := H.ats.n 0 rfl
  refine br beq_iff_eq (fun h0 => ⟨rfl, H.ats.ext⟩) fun hne => ?_
  have hp : 0 < C.fl.length := by omega
  obtain ⟨X, H, back⟩ := H.raw
  refine ixAt (E := eCP) H 0 rfl 0 rfl hp fun e he => ?_
  repeat (first | with_reducible refine nn ?_ | with_reducible refine let_ ?_ | with_reducible refine brSome ?_ | with_reducible refine brF ?_ | with_reducible refine brT ?_ | ((with_reducible apply ldAt H 0); exact rfl; exact rfl) | ((with_reducible apply ldAt0 H 0); exact rfl; exact rfl) | ((with_reducible apply ldAt H 1); exact rfl; exact rfl) | ((with_reducible apply ldAt0 H 1); exact rfl; exact rfl) | ((with_reducible apply ldEl H 0); exact rfl; assumption; (case hk => assumption); exact rfl) | ((with_reducible apply ldEl0 H 0); exact rfl; assumption; (case hk => assumption); exact rfl) | ((with_reducible apply ldElS H 0); exact rfl; assumption; (case hk => assumption); exact rfl) | ((with_reducible apply ldElS0 H 0); exact rfl; assumption; (case hk => assumption); exact rfl) | ((with_reducible apply ldEl H 1); exact rfl; assumption; (case hk => assumption); exact rfl) | ((with_reducible apply ldEl0 H 1); exact rfl; assumption; (case hk => assumption); exact rfl) | ((with_reducible apply ldElS H 1); exact rfl; assumption; (case hk => assumption); exact rfl) | ((with_reducible apply ldElS0 H 1); exact rfl; assumption; (case hk => assumption); exact rfl) | ((with_reducible apply stAt H 0); exact rfl; exact rfl; intro h H) | ((with_reducible apply stAt0 H 0); exact rfl; exact rfl; intro h H) | ((with_reducible apply stAt H 1); exact rfl; exact rfl; intro h H) | ((with_reducible apply stAt0 H 1); exact rfl; exact rfl; intro h H) | ((with_reducible apply stElS (E := eCP) ⟨_, _, _, _⟩ H 0); exact rfl; assumption; (case hk => assumption); exact rfl; (first | exact rfl | (dsimp only [eCP, List.set_cons_succ, List.set_cons_zero] <;> exact rfl)); intro h H) | ((with_reducible apply stElS0 (E := eCP) ⟨_, _, _, _⟩ H 0); exact rfl; assumption; (case hk => assumption); (first | exact rfl | (dsimp only [eCP, List.set_cons_succ, List.set_cons_zero] <;> exact rfl)); intro h H) | ((with_reducible apply stEl (E := eCP) ⟨_, _, _, _⟩ H 0); exact rfl; assumption; (case hk => assumption); exact rfl; (first | exact rfl | (dsimp only [eCP, List.set_cons_succ, List.set_cons_zero] <;> exact rfl)); intro h H) | ((with_reducible apply stEl0 (E := eCP) ⟨_, _, _, _⟩ H 0); exact rfl; assumption; (case hk => assumption); (first | exact rfl | (dsimp only [eCP, List.set_cons_succ, List.set_cons_zero] <;> exact rfl)); intro h H) | ((with_reducible apply stElS (E := eCP) ⟨_, _, _, _⟩ H 1); exact rfl; assumption; (case hk => assumption); exact rfl; (first | exact rfl | (dsimp only [eCP, List.set_cons_succ, List.set_cons_zero] <;> exact rfl)); intro h H) | ((with_reducible apply stElS0 (E := eCP) ⟨_, _, _, _⟩ H 1); exact rfl; assumption; (case hk => assumption); (first | exact rfl | (dsimp only [eCP, List.set_cons_succ, List.set_cons_zero] <;> exact rfl)); intro h H) | ((with_reducible apply stEl (E := eCP) ⟨_, _, _, _⟩ H 1); exact rfl; assumption; (case hk => assumption); exact rfl; (first | exact rfl | (dsimp only [eCP, List.set_cons_succ, List.set_cons_zero] <;> exact rfl)); intro h H) | ((with_reducible apply stEl0 (E := eCP) ⟨_, _, _, _⟩ H 1); exact rfl; assumption; (case hk => assumption); (first | exact rfl | (dsimp only [eCP, List.set_cons_succ, List.set_cons_zero] <;> exact rfl)); intro h H) | ((with_reducible apply allocAt H); intro h b H) | ((with_reducible refine ⟨?_, ?_⟩); first | ((with_reducible apply ldAt H 0); exact rfl; exact rfl; exact rfl) | ((with_reducible apply ldAt0 H 0); exact rfl; exact rfl; exact rfl) | ((with_reducible apply ldAt H 1); exact rfl; exact rfl; exact rfl) | ((with_reducible apply ldAt0 H 1); exact rfl; exact rfl; exact rfl) | ((with_reducible apply ldEl H 0); exact rfl; assumption; (case hk => assumption); exact rfl; exact rfl) | ((with_reducible apply ldEl0 H 0); exact rfl; assumption; (case hk => assumption); exact rfl; exact rfl) | ((with_reducible apply ldElS H 0); exact rfl; assumption; (case hk => assumption); exact rfl; exact rfl) | ((with_reducible apply ldElS0 H 0); exact rfl; assumption; (case hk => assumption); exact rfl; exact rfl) | ((with_reducible apply ldEl H 1); exact rfl; assumption; (case hk => assumption); exact rfl; exact rfl) | ((with_reducible apply ldEl0 H 1); exact rfl; assumption; (case hk => assumption); exact rfl; exact rfl) | ((with_reducible apply ldElS H 1); exact rfl; assumption; (case hk => assumption); exact rfl; exact rfl) | ((with_reducible apply ldElS0 H 1); exact rfl; assumption; (case hk => assumption); exact rfl; exact rfl)))
  have HF := back _ (_ :: _) H
  have hpk := ho.fls _ (List.getElem_mem hp)
  generalize C.fl[0] = p at *
  have hst2 := (hi.has _).1 hpk.st
  have hat2 := (hi.has _).1 hpk.at_
  obtain ⟨a, ha⟩ : ∃ a : Nat, p.start = a := ⟨p.start.toNat, by omega⟩
  obtain ⟨b, hb⟩ : ∃ b : Nat, p.at_ = b := ⟨p.at_.toNat, by omega⟩
  have ha2 : a < st.length := by omega
  have hb2 : b < st.length := by omega
  have hsa := hi.stamp a ha2 ha2
  have hsb := hi.stamp b hb2 hb2
  have hsp := hpk.stamp
  rw [ha, hsa] at hsp
  have hel := hpk.el
  unfold eld at hel
  rw [ha, hb, hsa, hsb] at hel
  have hle : st[b] < st[a] ∨ (st[b] = st[a] ∧ b ≤ a) := by
    rcases hel with h | h | h
    · obtain rfl : b = a := by omega
      exact .inr ⟨rfl, Nat.le_refl _⟩
    · exact .inl h
    · exact .inr ⟨h.1, by omega⟩
  have ba := hst _ (List.getElem_mem ha2)
  have bb := hst _ (List.getElem_mem hb2)
  have A2 := H.arg A
  refine join1 (s1 := .one .bool) (fun (q : Bool) h10 => q = false ∧ h10 = h) (fun _ (q : Bool) h10 hJ => ?_) ?_
  · obtain ⟨rfl, rfl⟩ := hJ
    refine brF ?_
    have HF2 := HF.sub (F' := []) (List.nil_sublist _)
    have next : C_chase_Field_Deliver (some ⟨d, 0, none⟩) 0 h10 fun _ _ _ h_20 => Let (IntKind.i64.wrap ((j : Int) + 1) : Int) fun n1 => (∃ (j_1 : Nat) (C : CF), n1 = j_1 ∧ (j_1 : Int) ≤ 3000 ∧ FldAt hB h_20 d 8 j_1 C [] ∧ COk 8 (st.length + es.length + st.length) C ∧ OInv st st.length C ∧ C.fl.length ≤ 64 * st.length + 64 * j_1) ∧ ((3000 : Int) - n1).toNat < ((3000 : Int) - (j : Int)).toNat := by
      refine chase_Deliver_ok HF2 ho (by omega) (by omega) (by omega) fun h11 H => let_ ?_
      have hl := deliver_len ho 0
      rw [w64 (by omega) (by omega)]
      exact ⟨⟨j + 1, _, by omega, by omega, H, ho.deliver 0, hi.deliver 0, by omega⟩, by omega⟩
    repeat (first | with_reducible refine nn ?_ | with_reducible refine let_ ?_ | with_reducible refine brSome ?_ | with_reducible refine brF ?_ | with_reducible refine brT ?_ | ((with_reducible apply ldAt H 0); exact rfl; exact rfl) | ((with_reducible apply ldAt0 H 0); exact rfl; exact rfl) | ((with_reducible apply stAt H 0); exact rfl; exact rfl; intro h H) | ((with_reducible apply stAt0 H 0); exact rfl; exact rfl; intro h H) | ((with_reducible refine ⟨?_, ?_⟩); first | ((with_reducible apply ldAt H 0); exact rfl; exact rfl; exact rfl) | ((with_reducible apply ldAt0 H 0); exact rfl; exact rfl; exact rfl)))
    refine ixR A2 b hb hb2 fun e2 he2 => ?_
    refine ldR0 A2 he2 hb2 st[b] rfl ?_
    repeat (first | with_reducible refine nn ?_ | with_reducible refine let_ ?_ | with_reducible refine brSome ?_ | with_reducible refine brF ?_ | with_reducible refine brT ?_ | ((with_reducible apply ldAt H 0); exact rfl; exact rfl) | ((with_reducible apply ldAt0 H 0); exact rfl; exact rfl) | ((with_reducible apply stAt H 0); exact rfl; exact rfl; intro h H) | ((with_reducible apply stAt0 H 0); exact rfl; exact rfl; intro h H) | ((with_reducible refine ⟨?_, ?_⟩); first | ((with_reducible apply ldAt H 0); exact rfl; exact rfl; exact rfl) | ((with_reducible apply ldAt0 H 0); exact rfl; exact rfl; exact rfl)))
    refine ixR A2 a ha ha2 fun e3 he3 => ?_
    refine ldR0 A2 he3 ha2 st[a] rfl ?_
    refine brD (fun h11 => by omega) fun h11 => ?_
    refine br beq_iff_eq (fun h12 => ?_) fun h12 => next
    repeat (first | with_reducible refine nn ?_ | with_reducible refine let_ ?_ | with_reducible refine brSome ?_ | with_reducible refine brF ?_ | with_reducible refine brT ?_ | ((with_reducible apply ldAt H 0); exact rfl; exact rfl) | ((with_reducible apply ldAt0 H 0); exact rfl; exact rfl) | ((with_reducible apply stAt H 0); exact rfl; exact rfl; intro h H) | ((with_reducible apply stAt0 H 0); exact rfl; exact rfl; intro h H) | ((with_reducible refine ⟨?_, ?_⟩); first | ((with_reducible apply ldAt H 0); exact rfl; exact rfl; exact rfl) | ((with_reducible apply ldAt0 H 0); exact rfl; exact rfl; exact rfl)))
    refine brD (fun h13 => by omega) fun h13 => next
  · repeat (first | with_reducible refine nn ?_ | with_reducible refine let_ ?_ | with_reducible refine brSome ?_ | with_reducible refine brF ?_ | with_reducible refine brT ?_ | ((with_reducible apply ldAt H 0); exact rfl; exact rfl) | ((with_reducible apply ldAt0 H 0); exact rfl; exact rfl) | ((with_reducible apply stAt H 0); exact rfl; exact rfl; intro h H) | ((with_reducible apply stAt0 H 0); exact rfl; exact rfl; intro h H) | ((with_reducible refine ⟨?_, ?_⟩); first | ((with_reducible apply ldAt H 0); exact rfl; exact rfl; exact rfl) | ((with_reducible apply ldAt0 H 0); exact rfl; exact rfl; exact rfl)))
    refine brD (fun x => by omega) fun _ => ?_
    repeat (first | with_reducible refine nn ?_ | with_reducible refine let_ ?_ | with_reducible refine brSome ?_ | with_reducible refine brF ?_ | with_reducible refine brT ?_ | ((with_reducible apply ldAt H 0); exact rfl; exact rfl) | ((with_reducible apply ldAt0 H 0); exact rfl; exact rfl) | ((with_reducible apply stAt H 0); exact rfl; exact rfl; intro h H) | ((with_reducible apply stAt0 H 0); exact rfl; exact rfl; intro h H) | ((with_reducible refine ⟨?_, ?_⟩); first | ((with_reducible apply ldAt H 0); exact rfl; exact rfl; exact rfl) | ((with_reducible apply ldAt0 H 0); exact rfl; exact rfl; exact rfl)))
    refine brD (fun x => by omega) fun _ => ?_
    repeat (first | with_reducible refine nn ?_ | with_reducible refine let_ ?_ | with_reducible refine brSome ?_ | with_reducible refine brF ?_ | with_reducible refine brT ?_ | ((with_reducible apply ldAt H 0); exact rfl; exact rfl) | ((with_reducible apply ldAt0 H 0); exact rfl; exact rfl) | ((with_reducible apply stAt H 0); exact rfl; exact rfl; intro h H) | ((with_reducible apply stAt0 H 0); exact rfl; exact rfl; intro h H) | ((with_reducible refine ⟨?_, ?_⟩); first | ((with_reducible apply ldAt H 0); exact rfl; exact rfl; exact rfl) | ((with_reducible apply ldAt0 H 0); exact rfl; exact rfl; exact rfl)))
    refine brD (fun x => by omega) fun _ => ?_
    repeat (first | with_reducible refine nn ?_ | with_reducible refine let_ ?_ | with_reducible refine brSome ?_ | with_reducible refine brF ?_ | with_reducible refine brT ?_ | ((with_reducible apply ldAt H 0); exact rfl; exact rfl) | ((with_reducible apply ldAt0 H 0); exact rfl; exact rfl) | ((with_reducible apply stAt H 0); exact rfl; exact rfl; intro h H) | ((with_reducible apply stAt0 H 0); exact rfl; exact rfl; intro h H) | ((with_reducible refine ⟨?_, ?_⟩); first | ((with_reducible apply ldAt H 0); exact rfl; exact rfl; exact rfl) | ((with_reducible apply ldAt0 H 0); exact rfl; exact rfl; exact rfl)))
    refine brD (fun x => by omega) fun _ => ?_
    repeat (first | with_reducible refine nn ?_ | with_reducible refine let_ ?_ | with_reducible refine brSome ?_ | with_reducible refine brF ?_ | with_reducible refine brT ?_ | ((with_reducible apply ldAt H 0); exact rfl; exact rfl) | ((with_reducible apply ldAt0 H 0); exact rfl; exact rfl) | ((with_reducible apply stAt H 0); exact rfl; exact rfl; intro h H) | ((with_reducible apply stAt0 H 0); exact rfl; exact rfl; intro h H) | ((with_reducible refine ⟨?_, ?_⟩); first | ((with_reducible apply ldAt H 0); exact rfl; exact rfl; exact rfl) | ((with_reducible apply ldAt0 H 0); exact rfl; exact rfl; exact rfl)))
    refine ixR A2 a ha ha2 fun e3 he3 => ?_
    refine ldR0 A2 he3 ha2 st[a] rfl ?_
    refine ⟨?_, rfl⟩
    rw [w64 (by omega) (by omega), hsp]
    simp
end Go.Proofs.Ytmpekddpehhdnaa
