/-
  Layer 16 (status): an act; what the document fixes; the same rows; the arguments; StatusFrom over the heap alone.
-/
import Derived.Test.YtmpekddpehhdnaaUc
import Derived.Test.YtmpekddpehhdnaaSUL
import Derived.Test.YtmpekddpehhdnaaQ
import Derived.Test.YtmpekddpehhdnaaH
namespace Go.Proofs.Ytmpekddpehhdnaa
open Go

def eSAct : Enc SAct 5 := ⟨fun a => [.int .u8 a.kind, .int .i64 a.tx, .int .i64 a.attempt, .int .i64 a.stamp, .int .i64 a.now], fun _ => rfl, by decide, fun x u hu => by
  simp only [List.mem_cons, List.not_mem_nil, or_false] at hu
  rcases hu with rfl | rfl | rfl | rfl | rfl <;> rfl⟩
section
variable {h0 h : Heap} {F L : List Res} {d : Nat} {ty : TypeId} {s : Sl} {l : List SRow} {N : Nat}
theorem law16_do_ok {a : SAct} {R : Int → Int → Heap → Prop} (H : At h0 h (tabL d ty s l ++ F)) (ho : SOk N l) (hN : N ≤ 100000) (hk : 0 ≤ a.kind)
    (hR : ∀ h' s', At h0 h' (tabL d ty s' (sActM l a).1 ++ F) → R (sActM l a).2.1 (sActM l a).2.2 h') : C_law16_do (some ⟨d, 0, none⟩) (a.kind, a.tx, a.attempt, a.stamp, a.now, ()) h R := by
  refine A_law16_do ?_
  unfold S_law16_do
  repeat (first | with_reducible refine nn ?_ | with_reducible refine let_ ?_ | with_reducible refine brSome ?_ | with_reducible refine brF ?_ | with_reducible refine brT ?_ | ((with_reducible apply ldAt H 0); exact rfl; exact rfl) | ((with_reducible apply ldAt0 H 0); exact rfl; exact rfl) | ((with_reducible apply stAt H 0); exact rfl; exact rfl; intro h H) | ((with_reducible apply stAt0 H 0); exact rfl; exact rfl; intro h H) | ((with_reducible apply allocAt H); intro h b H) | ((with_reducible refine ⟨?_, ?_⟩); first | ((with_reducible apply ldAt H 0); exact rfl; exact rfl; exact rfl) | ((with_reducible apply ldAt0 H 0); exact rfl; exact rfl; exact rfl)))
  refine nz (by decide) ?_
  rw [rem_nonneg hk]
  have H := H.mv 1 2
  have tmp : ∀ {h' : Heap} {s' : Sl} {l' : List SRow} {q : Res}, At h0 h' (tabL d ty s' l' ++ (q :: F)) → At h0 h' (tabL d ty s' l' ++ F) := fun H => (H.mv 2 1).tail
  unfold sActM at hR
  refine br beq_iff_eq (fun hc => ?_) fun hc => ?_
  · rw [if_pos hc] at hR
    repeat (first | with_reducible refine nn ?_ | with_reducible refine let_ ?_ | with_reducible refine brSome ?_ | with_reducible refine brF ?_ | with_reducible refine brT ?_ | ((with_reducible apply ldAt H 0); exact rfl; exact rfl) | ((with_reducible apply ldAt0 H 0); exact rfl; exact rfl) | ((with_reducible apply ldAt H 1); exact rfl; exact rfl) | ((with_reducible apply ldAt0 H 1); exact rfl; exact rfl) | ((with_reducible apply ldAt H 2); exact rfl; exact rfl) | ((with_reducible apply ldAt0 H 2); exact rfl; exact rfl) | ((with_reducible apply stAt H 0); exact rfl; exact rfl; intro h H) | ((with_reducible apply stAt0 H 0); exact rfl; exact rfl; intro h H) | ((with_reducible apply stAt H 1); exact rfl; exact rfl; intro h H) | ((with_reducible apply stAt0 H 1); exact rfl; exact rfl; intro h H) | ((with_reducible apply stAt H 2); exact rfl; exact rfl; intro h H) | ((with_reducible apply stAt0 H 2); exact rfl; exact rfl; intro h H) | ((with_reducible apply allocAt H); intro h b H) | ((with_reducible refine ⟨?_, ?_⟩); first | ((with_reducible apply ldAt H 0); exact rfl; exact rfl; exact rfl) | ((with_reducible apply ldAt0 H 0); exact rfl; exact rfl; exact rfl) | ((with_reducible apply ldAt H 1); exact rfl; exact rfl; exact rfl) | ((with_reducible apply ldAt0 H 1); exact rfl; exact rfl; exact rfl) | ((with_reducible apply ldAt H 2); exact rfl; exact rfl; exact rfl) | ((with_reducible apply ldAt0 H 2); exact rfl; exact rfl; exact rfl)))
    exact status_Open_ok (F := _ :: F) H ho hN fun h' s' H => hR _ _ (tmp H)
  rw [if_neg hc] at hR
  refine br beq_iff_eq (fun hc => ?_) fun hc => ?_
  · rw [if_pos hc] at hR
    repeat (first | with_reducible refine nn ?_ | with_reducible refine let_ ?_ | with_reducible refine brSome ?_ | with_reducible refine brF ?_ | with_reducible refine brT ?_ | ((with_reducible apply ldAt H 0); exact rfl; exact rfl) | ((with_reducible apply ldAt0 H 0); exact rfl; exact rfl) | ((with_reducible apply ldAt H 1); exact rfl; exact rfl) | ((with_reducible apply ldAt0 H 1); exact rfl; exact rfl) | ((with_reducible apply ldAt H 2); exact rfl; exact rfl) | ((with_reducible apply ldAt0 H 2); exact rfl; exact rfl) | ((with_reducible apply stAt H 0); exact rfl; exact rfl; intro h H) | ((with_reducible apply stAt0 H 0); exact rfl; exact rfl; intro h H) | ((with_reducible apply stAt H 1); exact rfl; exact rfl; intro h H) | ((with_reducible apply stAt0 H 1); exact rfl; exact rfl; intro h H) | ((with_reducible apply stAt H 2); exact rfl; exact rfl; intro h H) | ((with_reducible apply stAt0 H 2); exact rfl; exact rfl; intro h H) | ((with_reducible apply allocAt H); intro h b H) | ((with_reducible refine ⟨?_, ?_⟩); first | ((with_reducible apply ldAt H 0); exact rfl; exact rfl; exact rfl) | ((with_reducible apply ldAt0 H 0); exact rfl; exact rfl; exact rfl) | ((with_reducible apply ldAt H 1); exact rfl; exact rfl; exact rfl) | ((with_reducible apply ldAt0 H 1); exact rfl; exact rfl; exact rfl) | ((with_reducible apply ldAt H 2); exact rfl; exact rfl; exact rfl) | ((with_reducible apply ldAt0 H 2); exact rfl; exact rfl; exact rfl)))
    exact status_Decide_ok (F := _ :: F) H ho hN fun h' s' H => hR _ _ (tmp H)
  rw [if_neg hc] at hR
  refine br beq_iff_eq (fun hc => ?_) fun hc => ?_
  · rw [if_pos hc] at hR
    repeat (first | with_reducible refine nn ?_ | with_reducible refine let_ ?_ | with_reducible refine brSome ?_ | with_reducible refine brF ?_ | with_reducible refine brT ?_ | ((with_reducible apply ldAt H 0); exact rfl; exact rfl) | ((with_reducible apply ldAt0 H 0); exact rfl; exact rfl) | ((with_reducible apply ldAt H 1); exact rfl; exact rfl) | ((with_reducible apply ldAt0 H 1); exact rfl; exact rfl) | ((with_reducible apply ldAt H 2); exact rfl; exact rfl) | ((with_reducible apply ldAt0 H 2); exact rfl; exact rfl) | ((with_reducible apply stAt H 0); exact rfl; exact rfl; intro h H) | ((with_reducible apply stAt0 H 0); exact rfl; exact rfl; intro h H) | ((with_reducible apply stAt H 1); exact rfl; exact rfl; intro h H) | ((with_reducible apply stAt0 H 1); exact rfl; exact rfl; intro h H) | ((with_reducible apply stAt H 2); exact rfl; exact rfl; intro h H) | ((with_reducible apply stAt0 H 2); exact rfl; exact rfl; intro h H) | ((with_reducible apply allocAt H); intro h b H) | ((with_reducible refine ⟨?_, ?_⟩); first | ((with_reducible apply ldAt H 0); exact rfl; exact rfl; exact rfl) | ((with_reducible apply ldAt0 H 0); exact rfl; exact rfl; exact rfl) | ((with_reducible apply ldAt H 1); exact rfl; exact rfl; exact rfl) | ((with_reducible apply ldAt0 H 1); exact rfl; exact rfl; exact rfl) | ((with_reducible apply ldAt H 2); exact rfl; exact rfl; exact rfl) | ((with_reducible apply ldAt0 H 2); exact rfl; exact rfl; exact rfl)))
    exact status_Kill_ok (F := _ :: F) H ho hN fun h' s' H => hR _ _ (tmp H)
  rw [if_neg hc] at hR
  repeat (first | with_reducible refine nn ?_ | with_reducible refine let_ ?_ | with_reducible refine brSome ?_ | with_reducible refine brF ?_ | with_reducible refine brT ?_ | ((with_reducible apply ldAt H 0); exact rfl; exact rfl) | ((with_reducible apply ldAt0 H 0); exact rfl; exact rfl) | ((with_reducible apply ldAt H 1); exact rfl; exact rfl) | ((with_reducible apply ldAt0 H 1); exact rfl; exact rfl) | ((with_reducible apply ldAt H 2); exact rfl; exact rfl) | ((with_reducible apply ldAt0 H 2); exact rfl; exact rfl) | ((with_reducible apply stAt H 0); exact rfl; exact rfl; intro h H) | ((with_reducible apply stAt0 H 0); exact rfl; exact rfl; intro h H) | ((with_reducible apply stAt H 1); exact rfl; exact rfl; intro h H) | ((with_reducible apply stAt0 H 1); exact rfl; exact rfl; intro h H) | ((with_reducible apply stAt H 2); exact rfl; exact rfl; intro h H) | ((with_reducible apply stAt0 H 2); exact rfl; exact rfl; intro h H) | ((with_reducible apply allocAt H); intro h b H) | ((with_reducible refine ⟨?_, ?_⟩); first | ((with_reducible apply ldAt H 0); exact rfl; exact rfl; exact rfl) | ((with_reducible apply ldAt0 H 0); exact rfl; exact rfl; exact rfl) | ((with_reducible apply ldAt H 1); exact rfl; exact rfl; exact rfl) | ((with_reducible apply ldAt0 H 1); exact rfl; exact rfl; exact rfl) | ((with_reducible apply ldAt H 2); exact rfl; exact rfl; exact rfl) | ((with_reducible apply ldAt0 H 2); exact rfl; exact rfl; exact rfl)))
  exact status_Beat_ok (F := _ :: F) H ho hN fun h' s' H => hR _ _ (tmp H)
theorem row_eqL (a b : SRow) : eqL (eRow.cells a) (eRow.cells b) = true ↔ a = b := by
  show (a.tx == b.tx && (a.attempt == b.attempt && (a.stamp == b.stamp && (a.state == b.state && (a.heard == b.heard && true))))) = true ↔ _
  simp only [Bool.and_eq_true, beq_iff_eq, and_true]
  constructor
  · rintro ⟨h1, h2, h3, h4, h5⟩
    cases a; cases b
    simp only at h1 h2 h3 h4 h5
    subst h1 h2 h3 h4 h5
    rfl
  · rintro rfl
    exact ⟨rfl, rfl, rfl, rfl, rfl⟩
theorem law16_same_ok {a b : Sl} {xs ys : List SRow} {R : Bool → Heap → Prop} (A : RdS h 5 a (eRow.fl xs)) (B : RdS h 5 b (eRow.fl ys)) (hlen : xs.length ≤ 1000000) (hR : ∀ q, (q = true ↔ xs = ys) → R q h) : C_law16_same a b h R := by
  refine A_law16_same ?_
  unfold S_law16_same
  have ha := rdn A
  have hb := rdn B
  refine br bne_iff_ne (fun hne => hR _ ⟨fun x => by (cases x), fun x => by subst x; omega⟩) fun heq => ?_
  have hl : xs.length = ys.length := by omega
  refine loop1 (s1 := .one (.int .i64)) (fun (x : Int) h1 => ∃ j : Nat, x = j ∧ j ≤ xs.length ∧ h1 = h ∧ ∀ i, (hi : i < xs.length) → (hi2 : i < ys.length) → i < j → xs[i] = ys[i]) (fun (x : Int) _ => (xs.length - x).toNat)
    ⟨0, rfl, Nat.zero_le _, rfl, fun i _ _ hi => absurd hi (Nat.not_lt_zero _)⟩ fun _ (x : Int) h1 hI => ?_
  obtain ⟨j, rfl, hj, rfl, hp⟩ := hI
  refine brD (fun hc => ?_) fun hc => ?_
  · have hj2 : j < xs.length := by omega
    have hj3 : j < ys.length := by omega
    refine ixR A j rfl hj2 fun e he => ?_
    refine ldR0 A he hj2 _ rfl (ldR (j := 1) A he hj2 _ rfl (ldR (j := 2) A he hj2 _ rfl (ldR (j := 3) A he hj2 _ rfl (ldR (j := 4) A he hj2 _ rfl ?_))))
    refine ixR B j rfl hj3 fun e he => ?_
    refine ldR0 B he hj3 _ rfl (ldR (j := 1) B he hj3 _ rfl (ldR (j := 2) B he hj3 _ rfl (ldR (j := 3) B he hj3 _ rfl (ldR (j := 4) B he hj3 _ rfl ?_))))
    refine opNeq (us := eRow.cells xs[j]) (vs := eRow.cells ys[j]) (by kernel_rfl) ?_
    cases hq : eqL (eRow.cells xs[j]) (eRow.cells ys[j]) with
    | true =>
      refine brF ?_
      rw [w64 (by omega) (by omega)]
      refine ⟨⟨j + 1, by omega, by omega, rfl, fun i hi hi2 hij => ?_⟩, by omega⟩
      by_cases e : i < j
      · exact hp i hi hi2 e
      · obtain rfl : i = j := by omega
        exact (row_eqL _ _).1 hq
    | false =>
      refine brT (hR _ ⟨fun x => by (cases x), fun x => ?_⟩)
      subst x
      rw [(row_eqL _ _).2 rfl] at hq
      cases hq
  · exact hR _ ⟨fun _ => List.ext_getElem hl fun i h1 h2 => hp i h1 h2 (by omega), fun _ => rfl⟩
/-! ## fixed -/
theorem status_Beat_nil {h : Heap} {R : Int → Int → Heap → Prop} (hR : R 0 1 h) : C_status_Table_Beat none 1 1 1 h R := A_status_Table_Beat (A_status_Table_right hR)
theorem status_Rows_nil {h : Heap} {R : Sl → Heap → Prop} (hR : R ⟨none, 0, 0⟩ h) : C_status_Table_Rows none h R := A_status_Table_Rows hR
set_option maxRecDepth 100000 in
theorem law16_fixed_ok {h : Heap} {R : Bool → Heap → Prop} (hR : ∀ h', Ext h.size h h' → R true h') : C_law16_fixed h R := by
  refine A_law16_fixed ?_
  unfold S_law16_fixed
  refine status_New_ok (At.start h) fun h1 d ty H => ?_
  refine status_Open_ok H new_sok (by decide) fun h2 s H => ?_
  have q1 : openM [] 1 0 5 0 = ([⟨1, 0, 5, 1, 0⟩], 1, 0) := by kernel_rfl
  have o1 : SOk 1 (sActM [] ⟨0, 1, 0, 5, 0⟩).1 := new_sok.act _
  rw [show sActM [] ⟨0, 1, 0, 5, 0⟩ = ([⟨1, 0, 5, 1, 0⟩], 1, 0) by kernel_rfl] at o1
  rw [q1] at H ⊢
  refine status_Kill_ok H o1 (by decide) fun h3 s H => ?_
  have q2 : killM [⟨1, 0, 5, 1, 0⟩] 1 0 0 = ([⟨1, 0, 5, 3, 0⟩], 3, 0) := by kernel_rfl
  have o2 : SOk 2 (sActM [⟨1, 0, 5, 1, 0⟩] ⟨2, 1, 0, 0, 0⟩).1 := o1.act _
  rw [show sActM [⟨1, 0, 5, 1, 0⟩] ⟨2, 1, 0, 0, 0⟩ = ([⟨1, 0, 5, 3, 0⟩], 3, 0) by kernel_rfl] at o2
  rw [q2] at H ⊢
  refine status_Decide_ok H o2 (by decide) fun h4 s H => ?_
  have q3 : decideM [⟨1, 0, 5, 3, 0⟩] 1 0 = ([⟨1, 0, 5, 3, 0⟩], 3, 0) := by kernel_rfl
  rw [q3] at H ⊢
  refine status_Open_ok H o2 (by decide) fun h5 s H => ?_
  have q4 : openM [⟨1, 0, 5, 3, 0⟩] 1 1 9 3 = ([⟨1, 1, 5, 1, 3⟩], 1, 0) := by kernel_rfl
  have o3 : SOk 3 (sActM [⟨1, 0, 5, 3, 0⟩] ⟨0, 1, 1, 9, 3⟩).1 := o2.act _
  rw [show sActM [⟨1, 0, 5, 3, 0⟩] ⟨0, 1, 1, 9, 3⟩ = ([⟨1, 1, 5, 1, 3⟩], 1, 0) by kernel_rfl] at o3
  rw [q4] at H ⊢
  have q5 : cur [⟨1, 1, 5, 1, 3⟩] 1 = some ⟨1, 1, 5, 1, 3⟩ := by kernel_rfl
  refine status_Row_ok H o3 (by decide) (fun hc => by rw [q5] at hc; cases hc) fun o h6 hc H => ?_
  rw [q5] at hc
  injection hc with hc
  subst hc
  repeat (first | with_reducible refine nn ?_ | with_reducible refine let_ ?_ | with_reducible refine brSome ?_ | with_reducible refine brF ?_ | with_reducible refine brT ?_ | ((with_reducible apply ldAt H 0); exact rfl; exact rfl) | ((with_reducible apply ldAt0 H 0); exact rfl; exact rfl) | ((with_reducible apply stAt H 0); exact rfl; exact rfl; intro h H) | ((with_reducible apply stAt0 H 0); exact rfl; exact rfl; intro h H) | ((with_reducible apply allocAt H); intro h b H) | ((with_reducible refine ⟨?_, ?_⟩); first | ((with_reducible apply ldAt H 0); exact rfl; exact rfl; exact rfl) | ((with_reducible apply ldAt0 H 0); exact rfl; exact rfl; exact rfl)))
  refine status_Decide_ok (F := [_]) (H.mv 1 2) o3 (by decide) fun h7 s H => ?_
  have q6 : decideM [⟨1, 1, 5, 1, 3⟩] 1 1 = ([⟨1, 1, 5, 2, 3⟩], 2, 0) := by kernel_rfl
  have o4 : SOk 4 (sActM [⟨1, 1, 5, 1, 3⟩] ⟨1, 1, 1, 0, 0⟩).1 := o3.act _
  rw [show sActM [⟨1, 1, 5, 1, 3⟩] ⟨1, 1, 1, 0, 0⟩ = ([⟨1, 1, 5, 2, 3⟩], 2, 0) by kernel_rfl] at o4
  rw [q6] at H ⊢
  refine status_Open_ok H o4 (by decide) fun h8 s H => ?_
  have q7 : openM [⟨1, 1, 5, 2, 3⟩] 1 2 9 3 = ([⟨1, 1, 5, 2, 3⟩], 0, 8) := by kernel_rfl
  rw [q7] at H ⊢
  refine status_Decide_ok H o4 (by decide) fun h9 s H => ?_
  have q8 : decideM [⟨1, 1, 5, 2, 3⟩] 7 0 = ([⟨1, 1, 5, 2, 3⟩], 0, 6) := by kernel_rfl
  rw [q8] at H ⊢
  refine status_Beat_nil ?_
  refine brY rfl (brY rfl (brY rfl (brY rfl (brY rfl (brY rfl (brY rfl (brY rfl (brY rfl ?_))))))))
  repeat (first | with_reducible refine nn ?_ | with_reducible refine let_ ?_ | with_reducible refine brSome ?_ | with_reducible refine brF ?_ | with_reducible refine brT ?_ | ((with_reducible apply ldAt H 0); exact rfl; exact rfl) | ((with_reducible apply ldAt0 H 0); exact rfl; exact rfl) | ((with_reducible apply ldAt H 1); exact rfl; exact rfl) | ((with_reducible apply ldAt0 H 1); exact rfl; exact rfl) | ((with_reducible apply ldAt H 2); exact rfl; exact rfl) | ((with_reducible apply ldAt0 H 2); exact rfl; exact rfl) | ((with_reducible apply stAt H 0); exact rfl; exact rfl; intro h H) | ((with_reducible apply stAt0 H 0); exact rfl; exact rfl; intro h H) | ((with_reducible apply stAt H 1); exact rfl; exact rfl; intro h H) | ((with_reducible apply stAt0 H 1); exact rfl; exact rfl; intro h H) | ((with_reducible apply stAt H 2); exact rfl; exact rfl; intro h H) | ((with_reducible apply stAt0 H 2); exact rfl; exact rfl; intro h H) | ((with_reducible apply allocAt H); intro h b H) | ((with_reducible refine ⟨?_, ?_⟩); first | ((with_reducible apply ldAt H 0); exact rfl; exact rfl; exact rfl) | ((with_reducible apply ldAt0 H 0); exact rfl; exact rfl; exact rfl) | ((with_reducible apply ldAt H 1); exact rfl; exact rfl; exact rfl) | ((with_reducible apply ldAt0 H 1); exact rfl; exact rfl; exact rfl) | ((with_reducible apply ldAt H 2); exact rfl; exact rfl; exact rfl) | ((with_reducible apply ldAt0 H 2); exact rfl; exact rfl; exact rfl)))
  refine brY rfl ?_
  repeat (first | with_reducible refine nn ?_ | with_reducible refine let_ ?_ | with_reducible refine brSome ?_ | with_reducible refine brF ?_ | with_reducible refine brT ?_ | ((with_reducible apply ldAt H 0); exact rfl; exact rfl) | ((with_reducible apply ldAt0 H 0); exact rfl; exact rfl) | ((with_reducible apply ldAt H 1); exact rfl; exact rfl) | ((with_reducible apply ldAt0 H 1); exact rfl; exact rfl) | ((with_reducible apply ldAt H 2); exact rfl; exact rfl) | ((with_reducible apply ldAt0 H 2); exact rfl; exact rfl) | ((with_reducible apply stAt H 0); exact rfl; exact rfl; intro h H) | ((with_reducible apply stAt0 H 0); exact rfl; exact rfl; intro h H) | ((with_reducible apply stAt H 1); exact rfl; exact rfl; intro h H) | ((with_reducible apply stAt0 H 1); exact rfl; exact rfl; intro h H) | ((with_reducible apply stAt H 2); exact rfl; exact rfl; intro h H) | ((with_reducible apply stAt0 H 2); exact rfl; exact rfl; intro h H) | ((with_reducible apply allocAt H); intro h b H) | ((with_reducible refine ⟨?_, ?_⟩); first | ((with_reducible apply ldAt H 0); exact rfl; exact rfl; exact rfl) | ((with_reducible apply ldAt0 H 0); exact rfl; exact rfl; exact rfl) | ((with_reducible apply ldAt H 1); exact rfl; exact rfl; exact rfl) | ((with_reducible apply ldAt0 H 1); exact rfl; exact rfl; exact rfl) | ((with_reducible apply ldAt H 2); exact rfl; exact rfl; exact rfl) | ((with_reducible apply ldAt0 H 2); exact rfl; exact rfl; exact rfl)))
  refine brY rfl ?_
  repeat (first | with_reducible refine nn ?_ | with_reducible refine let_ ?_ | with_reducible refine brSome ?_ | with_reducible refine brF ?_ | with_reducible refine brT ?_ | ((with_reducible apply ldAt H 0); exact rfl; exact rfl) | ((with_reducible apply ldAt0 H 0); exact rfl; exact rfl) | ((with_reducible apply ldAt H 1); exact rfl; exact rfl) | ((with_reducible apply ldAt0 H 1); exact rfl; exact rfl) | ((with_reducible apply ldAt H 2); exact rfl; exact rfl) | ((with_reducible apply ldAt0 H 2); exact rfl; exact rfl) | ((with_reducible apply stAt H 0); exact rfl; exact rfl; intro h H) | ((with_reducible apply stAt0 H 0); exact rfl; exact rfl; intro h H) | ((with_reducible apply stAt H 1); exact rfl; exact rfl; intro h H) | ((with_reducible apply stAt0 H 1); exact rfl; exact rfl; intro h H) | ((with_reducible apply stAt H 2); exact rfl; exact rfl; intro h H) | ((with_reducible apply stAt0 H 2); exact rfl; exact rfl; intro h H) | ((with_reducible apply allocAt H); intro h b H) | ((with_reducible refine ⟨?_, ?_⟩); first | ((with_reducible apply ldAt H 0); exact rfl; exact rfl; exact rfl) | ((with_reducible apply ldAt0 H 0); exact rfl; exact rfl; exact rfl) | ((with_reducible apply ldAt H 1); exact rfl; exact rfl; exact rfl) | ((with_reducible apply ldAt0 H 1); exact rfl; exact rfl; exact rfl) | ((with_reducible apply ldAt H 2); exact rfl; exact rfl; exact rfl) | ((with_reducible apply ldAt0 H 2); exact rfl; exact rfl; exact rfl)))
  refine brY rfl (brY rfl (brY rfl (brY rfl (brY rfl (brY rfl ?_)))))
  refine status_State_ok H o4 (by decide) fun h10 H => ?_
  refine brY (by kernel_rfl) (status_Rows_nil ?_)
  exact hR _ H.ext
end
/-! ## Arguments -/
section
open Go.ChangeShapes Go.WideShapes
variable {H : Type} {enc : TypeId × Value → H} {w : World} {b0 : Nat} {v : Value} {d : DataW H} {ps : List MemPlace}
def ArgAct (hB : Heap) (s : Sl) (acts : List SAct) : Prop := RdS hB 5 s (eSAct.fl acts) ∧ ∀ a ∈ acts, 0 ≤ a.kind ∧ a.kind ≤ 255
set_option maxRecDepth 100000 in
theorem args_rows (hval : Value.okWide Try.prog w .any b0 70 v) (hd : DataW.Trod enc Try.prog w 0 (fun _ => true) true 70 v d ps) (hf : Fits Try.prog 70 d) :
    ∃ (s : Sl) (rs : List SRow), v = s.v ∧ RdS w.heap 5 s (eRow.fl rs) := by
  have he : ElS enc Try.prog w 81 fun cs => ∃ a : SRow, cs = eRow.cells a ∧ True := by
    refine els_st Try.underlying81 fun cs hl hf => ?_
    have hl3 : cs.length = 5 := hl.trans (by kernel_rfl)
    match cs, hl3 with
    | [c0, c1, c2, c3, c4], _ =>
      obtain ⟨_, _, h0, _⟩ := hf 0 _ rfl
      obtain ⟨_, _, h1, _⟩ := hf 1 _ rfl
      obtain ⟨_, _, h2, _⟩ := hf 2 _ rfl
      obtain ⟨_, _, h3, _⟩ := hf 3 _ rfl
      obtain ⟨_, _, h4, _⟩ := hf 4 _ rfl
      obtain ⟨n0, e0, _⟩ := el_int Try.underlying3 _ _ _ h0
      obtain ⟨n1, e1, _⟩ := el_int Try.underlying3 _ _ _ h1
      obtain ⟨n2, e2, _⟩ := el_int Try.underlying3 _ _ _ h2
      obtain ⟨n3, e3, _⟩ := el_int Try.underlying3 _ _ _ h3
      obtain ⟨n4, e4, _⟩ := el_int Try.underlying3 _ _ _ h4
      have e0' : [c0] = [Value.int .i64 n0] := e0
      have e1' : [c1] = [Value.int .i64 n1] := e1
      have e2' : [c2] = [Value.int .i64 n2] := e2
      have e3' : [c3] = [Value.int .i64 n3] := e3
      have e4' : [c4] = [Value.int .i64 n4] := e4
      simp only [List.cons.injEq, and_true] at e0' e1' e2' e3' e4'
      subst e0' e1' e2' e3' e4'
      exact ⟨⟨n0, n1, n2, n3, n4⟩, rfl, trivial⟩
  obtain ⟨s, css, h1, _, h3, h4, _⟩ := args_sl (sz := 5) Try.underlying70 (by kernel_rfl) (by decide) (of_decide_eq_true (by kernel_rfl)) he hval hd hf
  obtain ⟨rs, h6, _, _⟩ := cells_of eRow.cells _ fun c hc => (h3 c hc).2
  rw [h6] at h4
  exact ⟨s, rs, h1, h4.rd⟩
end
/-! ## StatusFrom -/
theorem srt_take_iff (xs : List SRow) (j : Nat) (hj : j < xs.length) : rightR (xs.take (j + 1)) ↔ rightR (xs.take j) ∧ okRow xs[j] ∧ ∀ k, (hk : k < xs.length) → k + 1 = j → xs[k].tx < xs[j].tx := by
  have hm : xs.take (j + 1) = xs.take j ++ [xs[j]] := take_snoc xs j hj
  constructor
  · rintro ⟨h1, h2⟩
    rw [hm] at h1 h2
    obtain ⟨a, _, c⟩ := List.pairwise_append.1 h1
    refine ⟨⟨a, fun r hr => h2 r (List.mem_append_left _ hr)⟩, h2 _ (List.mem_append_right _ (List.mem_singleton.2 rfl)), fun k hk hkj => c _ ?_ _ (List.mem_singleton.2 rfl)⟩
    exact List.mem_take_iff_getElem.2 ⟨k, by omega, rfl⟩
  · rintro ⟨⟨h1, h2⟩, h3, h4⟩
    refine ⟨?_, fun r hr => ?_⟩
    · rw [hm]
      refine List.pairwise_append.2 ⟨h1, List.pairwise_singleton .., fun a ha b hb => ?_⟩
      rw [List.mem_singleton.1 hb]
      obtain ⟨i, hi, rfl⟩ := List.mem_take_iff_getElem.1 ha
      have hij : i < j := by omega
      have e := h4 (j - 1) (by omega) (by omega)
      by_cases e2 : i = j - 1
      · subst e2; exact e
      · have := srt_lt (l := xs.take j) h1 (i := i) (j := j - 1) (by omega) (by rw [List.length_take]; omega)
        rw [List.getElem_take, List.getElem_take] at this
        omega
    · rw [hm] at hr
      rcases List.mem_append.1 hr with hr | hr
      · exact h2 r hr
      · rw [List.mem_singleton.1 hr]; exact h3
theorem At.keep {h0 h : Heap} {L : List Res} (H : At h0 h L) (n : Nat) : At h0 h (L.take n) :=
  ⟨H.ext, fun r hr => H.ok r (List.mem_of_mem_take hr), fun r hr => H.lo r (List.mem_of_mem_take hr), H.sep.sublist (List.take_sublist ..)⟩
def rightLoop (raw : Sl) (h_22 : Heap) (K : Bool → Heap → Prop) : Prop :=
  Loop [.one .bool, .one (.int .i64)] (fun _ (right_ : Bool) (x91 : Int) h_23 go2 =>
    (bif decide (x91 < (raw.n : Int)) then
      Ix raw x91 5 fun e2 =>
      Ld (.int .i64) h_23 e2 fun (x_Tx5 : Int) =>
      Ld (.int .i64) h_23 (e2.add 1) fun (x_Attempt5 : Int) =>
      Ld (.int .i64) h_23 (e2.add 2) fun (x_Stamp5 : Int) =>
      Ld (.int .i64) h_23 (e2.add 3) fun (x_State : Int) =>
      Ld (.int .i64) h_23 (e2.add 4) fun (x_Heard : Int) =>
      Alloc h_23 (.cells #[.int .i64 0, .int .i64 0, .int .i64 0, .int .i64 0, .int .i64 0] 81) fun r13 h_24 =>
      St h_24 r13 (.int .i64 x_Tx5) fun h_25 =>
      St h_25 (r13.add 1) (.int .i64 x_Attempt5) fun h_26 =>
      St h_26 (r13.add 2) (.int .i64 x_Stamp5) fun h_27 =>
      St h_27 (r13.add 3) (.int .i64 x_State) fun h_28 =>
      St h_28 (r13.add 4) (.int .i64 x_Heard) fun h_29 =>
      (bif right_ then
        Ld (.int .i64) h_29 r13 fun (Tx : Int) =>
        (bif decide (Tx ≥ 0) then
          Ld (.int .i64) h_29 r13 fun (Tx1 : Int) =>
          (bif decide (Tx1 ≤ 1048576) then
            Ld (.int .i64) h_29 (r13.add 1) fun (Attempt : Int) =>
            (bif decide (Attempt ≥ 0) then
              Ld (.int .i64) h_29 (r13.add 1) fun (Attempt1 : Int) =>
              (bif decide (Attempt1 ≤ 1048576) then
                Ld (.int .i64) h_29 (r13.add 2) fun (Stamp : Int) =>
                (bif decide (Stamp ≥ 0) then
                  Ld (.int .i64) h_29 (r13.add 2) fun (Stamp1 : Int) =>
                  (bif decide (Stamp1 ≤ 1099511627776) then
                    Ld (.int .i64) h_29 (r13.add 3) fun (State : Int) =>
                    (bif decide (State ≥ 1) then
                      Ld (.int .i64) h_29 (r13.add 3) fun (State1 : Int) =>
                      (bif decide (State1 ≤ 3) then
                        Ld (.int .i64) h_29 (r13.add 4) fun (Heard : Int) =>
                        (bif decide (Heard ≥ 0) then
                          Ld (.int .i64) h_29 (r13.add 4) fun (Heard1 : Int) =>
                          (bif decide (Heard1 ≤ 1099511627776) then
                            (bif x91 == 0 then
                              go2 true (IntKind.i64.wrap (x91 + 1)) h_29
                            else
                              Ix raw (IntKind.i64.wrap (x91 - 1)) 5 fun e3 =>
                              Ld (.int .i64) h_29 e3 fun (Tx2 : Int) =>
                              Ld (.int .i64) h_29 r13 fun (Tx3 : Int) =>
                              Let (decide (Tx2 < Tx3) : Bool) fun right_1 =>
                              go2 right_1 (IntKind.i64.wrap (x91 + 1)) h_29
                            )
                          else
                            go2 false (IntKind.i64.wrap (x91 + 1)) h_29
                          )
                        else
                          go2 false (IntKind.i64.wrap (x91 + 1)) h_29
                        )
                      else
                        go2 false (IntKind.i64.wrap (x91 + 1)) h_29
                      )
                    else
                      go2 false (IntKind.i64.wrap (x91 + 1)) h_29
                    )
                  else
                    go2 false (IntKind.i64.wrap (x91 + 1)) h_29
                  )
                else
                  go2 false (IntKind.i64.wrap (x91 + 1)) h_29
                )
              else
                go2 false (IntKind.i64.wrap (x91 + 1)) h_29
              )
            else
              go2 false (IntKind.i64.wrap (x91 + 1)) h_29
            )
          else
            go2 false (IntKind.i64.wrap (x91 + 1)) h_29
          )
        else
          go2 false (IntKind.i64.wrap (x91 + 1)) h_29
        )
      else
        go2 false (IntKind.i64.wrap (x91 + 1)) h_29
      )
    else
      K right_ h_23
    )
    ) (true, 0, ()) h_22
set_option maxHeartbeats 1600000 in
theorem rightLoop_ok {raw : Sl} {hB h : Heap} {M : List Res} {xs : List SRow} {K : Bool → Heap → Prop} (H : At hB h M) (W : RdS hB 5 raw (eRow.fl xs)) (hlen : xs.length ≤ 1000) (hK : ∀ q h', (q = true ↔ rightR xs) → At hB h' M → K q h') : rightLoop raw h K := by
  unfold rightLoop
  have hnx := rdn W
  refine loop2 (s1 := .one .bool) (s2 := .one (.int .i64)) (fun (q : Bool) (x : Int) h1 => ∃ j : Nat, x = j ∧ j ≤ xs.length ∧ (q = true ↔ rightR (xs.take j)) ∧ At hB h1 M) (fun _ (x : Int) _ => (xs.length - x).toNat)
    ⟨0, rfl, Nat.zero_le _, ⟨fun _ => ⟨List.Pairwise.nil, (fun r hr => by cases hr)⟩, fun _ => rfl⟩, H⟩ fun _ (q : Bool) (x : Int) h1 hI => ?_
  obtain ⟨j, rfl, hj, hq, H⟩ := hI
  refine brD (fun hc => ?_) fun hc => ?_
  · have hj2 : j < xs.length := by omega
    have hst := srt_take_iff xs j hj2
    refine ixR (H.arg W) j rfl hj2 fun e he => ?_
    repeat (first | with_reducible refine nn ?_ | with_reducible refine let_ ?_ | with_reducible refine brSome ?_ | with_reducible refine brF ?_ | with_reducible refine brT ?_ | ((with_reducible apply ldAt H 0); exact rfl; exact rfl) | ((with_reducible apply ldAt0 H 0); exact rfl; exact rfl) | ((with_reducible apply ldR (H.arg W)); assumption; (case hk => assumption); exact rfl) | ((with_reducible apply ldR0 (H.arg W)); assumption; (case hk => assumption); exact rfl) | ((with_reducible apply stAt H 0); exact rfl; exact rfl; intro h H) | ((with_reducible apply stAt0 H 0); exact rfl; exact rfl; intro h H) | ((with_reducible apply allocAt H); intro h b H) | ((with_reducible refine ⟨?_, ?_⟩); first | ((with_reducible apply ldAt H 0); exact rfl; exact rfl; exact rfl) | ((with_reducible apply ldAt0 H 0); exact rfl; exact rfl; exact rfl)))
    have go_ : ∀ q' : Bool, (q' = true ↔ rightR (xs.take (j + 1))) → (∃ j_1 : Nat, IntKind.i64.wrap ((j : Int) + 1) = j_1 ∧ j_1 ≤ xs.length ∧ (q' = true ↔ rightR (xs.take j_1)) ∧ At hB h M) ∧ ((xs.length : Int) - IntKind.i64.wrap ((j : Int) + 1)).toNat < ((xs.length : Int) - (j : Int)).toNat := fun q' hq' => by
      rw [w64 (by omega) (by omega)]
      exact ⟨⟨j + 1, by omega, by omega, hq', H.tail⟩, by omega⟩
    have no : ¬ (rightR (xs.take j) ∧ okRow xs[j] ∧ ∀ k, (hk : k < xs.length) → k + 1 = j → xs[k].tx < xs[j].tx) → (false = true ↔ rightR (xs.take (j + 1))) := fun hn => ⟨fun x => by (cases x), fun x => absurd (hst.1 x) hn⟩
    refine brB (fun hqt => ?_) fun hqf => ?_
    · have hrt := hq.1 hqt
      unfold okRow rightB at hst no
      repeat (first | with_reducible refine nn ?_ | with_reducible refine let_ ?_ | with_reducible refine brSome ?_ | with_reducible refine brF ?_ | with_reducible refine brT ?_ | ((with_reducible apply ldAt H 0); exact rfl; exact rfl) | ((with_reducible apply ldAt0 H 0); exact rfl; exact rfl) | ((with_reducible apply stAt H 0); exact rfl; exact rfl; intro h H) | ((with_reducible apply stAt0 H 0); exact rfl; exact rfl; intro h H) | ((with_reducible apply allocAt H); intro h b H) | ((with_reducible refine ⟨?_, ?_⟩); first | ((with_reducible apply ldAt H 0); exact rfl; exact rfl; exact rfl) | ((with_reducible apply ldAt0 H 0); exact rfl; exact rfl; exact rfl)))
      refine brD (fun c1 => ?_) fun c1 => go_ _ (no fun x => by have := x.2.1; omega)
      repeat (first | with_reducible refine nn ?_ | with_reducible refine let_ ?_ | with_reducible refine brSome ?_ | with_reducible refine brF ?_ | with_reducible refine brT ?_ | ((with_reducible apply ldAt H 0); exact rfl; exact rfl) | ((with_reducible apply ldAt0 H 0); exact rfl; exact rfl) | ((with_reducible apply stAt H 0); exact rfl; exact rfl; intro h H) | ((with_reducible apply stAt0 H 0); exact rfl; exact rfl; intro h H) | ((with_reducible apply allocAt H); intro h b H) | ((with_reducible refine ⟨?_, ?_⟩); first | ((with_reducible apply ldAt H 0); exact rfl; exact rfl; exact rfl) | ((with_reducible apply ldAt0 H 0); exact rfl; exact rfl; exact rfl)))
      refine brD (fun c2 => ?_) fun c2 => go_ _ (no fun x => by have := x.2.1; omega)
      repeat (first | with_reducible refine nn ?_ | with_reducible refine let_ ?_ | with_reducible refine brSome ?_ | with_reducible refine brF ?_ | with_reducible refine brT ?_ | ((with_reducible apply ldAt H 0); exact rfl; exact rfl) | ((with_reducible apply ldAt0 H 0); exact rfl; exact rfl) | ((with_reducible apply stAt H 0); exact rfl; exact rfl; intro h H) | ((with_reducible apply stAt0 H 0); exact rfl; exact rfl; intro h H) | ((with_reducible apply allocAt H); intro h b H) | ((with_reducible refine ⟨?_, ?_⟩); first | ((with_reducible apply ldAt H 0); exact rfl; exact rfl; exact rfl) | ((with_reducible apply ldAt0 H 0); exact rfl; exact rfl; exact rfl)))
      refine brD (fun c3 => ?_) fun c3 => go_ _ (no fun x => by have := x.2.1; omega)
      repeat (first | with_reducible refine nn ?_ | with_reducible refine let_ ?_ | with_reducible refine brSome ?_ | with_reducible refine brF ?_ | with_reducible refine brT ?_ | ((with_reducible apply ldAt H 0); exact rfl; exact rfl) | ((with_reducible apply ldAt0 H 0); exact rfl; exact rfl) | ((with_reducible apply stAt H 0); exact rfl; exact rfl; intro h H) | ((with_reducible apply stAt0 H 0); exact rfl; exact rfl; intro h H) | ((with_reducible apply allocAt H); intro h b H) | ((with_reducible refine ⟨?_, ?_⟩); first | ((with_reducible apply ldAt H 0); exact rfl; exact rfl; exact rfl) | ((with_reducible apply ldAt0 H 0); exact rfl; exact rfl; exact rfl)))
      refine brD (fun c4 => ?_) fun c4 => go_ _ (no fun x => by have := x.2.1; omega)
      repeat (first | with_reducible refine nn ?_ | with_reducible refine let_ ?_ | with_reducible refine brSome ?_ | with_reducible refine brF ?_ | with_reducible refine brT ?_ | ((with_reducible apply ldAt H 0); exact rfl; exact rfl) | ((with_reducible apply ldAt0 H 0); exact rfl; exact rfl) | ((with_reducible apply stAt H 0); exact rfl; exact rfl; intro h H) | ((with_reducible apply stAt0 H 0); exact rfl; exact rfl; intro h H) | ((with_reducible apply allocAt H); intro h b H) | ((with_reducible refine ⟨?_, ?_⟩); first | ((with_reducible apply ldAt H 0); exact rfl; exact rfl; exact rfl) | ((with_reducible apply ldAt0 H 0); exact rfl; exact rfl; exact rfl)))
      refine brD (fun c5 => ?_) fun c5 => go_ _ (no fun x => by have := x.2.1; omega)
      repeat (first | with_reducible refine nn ?_ | with_reducible refine let_ ?_ | with_reducible refine brSome ?_ | with_reducible refine brF ?_ | with_reducible refine brT ?_ | ((with_reducible apply ldAt H 0); exact rfl; exact rfl) | ((with_reducible apply ldAt0 H 0); exact rfl; exact rfl) | ((with_reducible apply stAt H 0); exact rfl; exact rfl; intro h H) | ((with_reducible apply stAt0 H 0); exact rfl; exact rfl; intro h H) | ((with_reducible apply allocAt H); intro h b H) | ((with_reducible refine ⟨?_, ?_⟩); first | ((with_reducible apply ldAt H 0); exact rfl; exact rfl; exact rfl) | ((with_reducible apply ldAt0 H 0); exact rfl; exact rfl; exact rfl)))
      refine brD (fun c6 => ?_) fun c6 => go_ _ (no fun x => by have := x.2.1; omega)
      repeat (first | with_reducible refine nn ?_ | with_reducible refine let_ ?_ | with_reducible refine brSome ?_ | with_reducible refine brF ?_ | with_reducible refine brT ?_ | ((with_reducible apply ldAt H 0); exact rfl; exact rfl) | ((with_reducible apply ldAt0 H 0); exact rfl; exact rfl) | ((with_reducible apply stAt H 0); exact rfl; exact rfl; intro h H) | ((with_reducible apply stAt0 H 0); exact rfl; exact rfl; intro h H) | ((with_reducible apply allocAt H); intro h b H) | ((with_reducible refine ⟨?_, ?_⟩); first | ((with_reducible apply ldAt H 0); exact rfl; exact rfl; exact rfl) | ((with_reducible apply ldAt0 H 0); exact rfl; exact rfl; exact rfl)))
      refine brD (fun c7 => ?_) fun c7 => go_ _ (no fun x => by have := x.2.1; omega)
      repeat (first | with_reducible refine nn ?_ | with_reducible refine let_ ?_ | with_reducible refine brSome ?_ | with_reducible refine brF ?_ | with_reducible refine brT ?_ | ((with_reducible apply ldAt H 0); exact rfl; exact rfl) | ((with_reducible apply ldAt0 H 0); exact rfl; exact rfl) | ((with_reducible apply stAt H 0); exact rfl; exact rfl; intro h H) | ((with_reducible apply stAt0 H 0); exact rfl; exact rfl; intro h H) | ((with_reducible apply allocAt H); intro h b H) | ((with_reducible refine ⟨?_, ?_⟩); first | ((with_reducible apply ldAt H 0); exact rfl; exact rfl; exact rfl) | ((with_reducible apply ldAt0 H 0); exact rfl; exact rfl; exact rfl)))
      refine brD (fun c8 => ?_) fun c8 => go_ _ (no fun x => by have := x.2.1; omega)
      repeat (first | with_reducible refine nn ?_ | with_reducible refine let_ ?_ | with_reducible refine brSome ?_ | with_reducible refine brF ?_ | with_reducible refine brT ?_ | ((with_reducible apply ldAt H 0); exact rfl; exact rfl) | ((with_reducible apply ldAt0 H 0); exact rfl; exact rfl) | ((with_reducible apply stAt H 0); exact rfl; exact rfl; intro h H) | ((with_reducible apply stAt0 H 0); exact rfl; exact rfl; intro h H) | ((with_reducible apply allocAt H); intro h b H) | ((with_reducible refine ⟨?_, ?_⟩); first | ((with_reducible apply ldAt H 0); exact rfl; exact rfl; exact rfl) | ((with_reducible apply ldAt0 H 0); exact rfl; exact rfl; exact rfl)))
      refine brD (fun c9 => ?_) fun c9 => go_ _ (no fun x => by have := x.2.1; omega)
      repeat (first | with_reducible refine nn ?_ | with_reducible refine let_ ?_ | with_reducible refine brSome ?_ | with_reducible refine brF ?_ | with_reducible refine brT ?_ | ((with_reducible apply ldAt H 0); exact rfl; exact rfl) | ((with_reducible apply ldAt0 H 0); exact rfl; exact rfl) | ((with_reducible apply stAt H 0); exact rfl; exact rfl; intro h H) | ((with_reducible apply stAt0 H 0); exact rfl; exact rfl; intro h H) | ((with_reducible apply allocAt H); intro h b H) | ((with_reducible refine ⟨?_, ?_⟩); first | ((with_reducible apply ldAt H 0); exact rfl; exact rfl; exact rfl) | ((with_reducible apply ldAt0 H 0); exact rfl; exact rfl; exact rfl)))
      refine brD (fun c10 => ?_) fun c10 => go_ _ (no fun x => by have := x.2.1; omega)
      have hok : ((0 ≤ xs[j].tx ∧ xs[j].tx ≤ 1048576 ∧ 0 ≤ xs[j].attempt ∧ xs[j].attempt ≤ 1048576 ∧ 0 ≤ xs[j].heard ∧ xs[j].heard ≤ 1099511627776) ∧ 0 ≤ xs[j].stamp ∧ xs[j].stamp ≤ 1099511627776 ∧ 1 ≤ xs[j].state ∧ xs[j].state ≤ 3) := by omega
      refine br beq_iff_eq (fun h0 => go_ _ ⟨fun _ => hst.2 ⟨hrt, hok, fun k _ hk => by omega⟩, fun _ => rfl⟩) fun h0 => ?_
      obtain ⟨k, rfl⟩ : ∃ k, j = k + 1 := ⟨j - 1, by omega⟩
      rw [w64 (n := ((k + 1 : Nat) : Int) - 1) (by omega) (by omega)]
      refine ixR (H.arg W) k (by omega) (by omega) fun e he => ?_
      refine ldR0 (H.arg W) he (by omega) xs[k].tx rfl ?_
      repeat (first | with_reducible refine nn ?_ | with_reducible refine let_ ?_ | with_reducible refine brSome ?_ | with_reducible refine brF ?_ | with_reducible refine brT ?_ | ((with_reducible apply ldAt H 0); exact rfl; exact rfl) | ((with_reducible apply ldAt0 H 0); exact rfl; exact rfl) | ((with_reducible apply stAt H 0); exact rfl; exact rfl; intro h H) | ((with_reducible apply stAt0 H 0); exact rfl; exact rfl; intro h H) | ((with_reducible apply allocAt H); intro h b H) | ((with_reducible refine ⟨?_, ?_⟩); first | ((with_reducible apply ldAt H 0); exact rfl; exact rfl; exact rfl) | ((with_reducible apply ldAt0 H 0); exact rfl; exact rfl; exact rfl)))
      refine go_ _ ?_
      rw [decide_eq_true_eq]
      constructor
      · intro hlt
        refine hst.2 ⟨hrt, hok, fun i hi hik => ?_⟩
        obtain rfl : i = k := by omega
        exact hlt
      · intro hr
        exact (hst.1 hr).2.2 k (by omega) rfl
    · refine go_ _ (no fun x => ?_)
      rw [hq.2 x.1] at hqf
      cases hqf
  · have hjl : j = xs.length := by omega
    subst hjl
    rw [List.take_length] at hq
    exact hK _ _ hq H
set_option maxHeartbeats 3200000 in
theorem law16_StatusFrom_core {l more raw : Sl} {hB : Heap} {xa xb : List SAct} {xs : List SRow} (w0 : ArgAct hB l xa) (w1 : ArgAct hB more xb) (w2 : RdS hB 5 raw (eRow.fl xs)) :
    C_law16_StatusFrom l more raw hB fun r h' => r = true ∧ Ext hB.size hB h' := by
  refine A_law16_StatusFrom ?_
  unfold S_law16_StatusFrom
  obtain ⟨A, hka⟩ := w0
  obtain ⟨B, hkb⟩ := w1
  have hna := rdn A
  have hnb := rdn B
  have hnx := rdn w2
  refine law16_fixed_ok fun h1 e1 => brN rfl ?_
  refine join1 (s1 := .one .bool) (fun (b : Bool) h2 => h2 = h1 ∧ (b = false → xa.length ≤ 60 ∧ xb.length ≤ 60 ∧ xs.length ≤ 60)) (fun _ (b : Bool) h2 hJ => ?_) ?_
  rotate_left
  · refine brD (fun _ => ⟨rfl, fun x => by (cases x)⟩) fun hc1 => brD (fun _ => ⟨rfl, fun x => by (cases x)⟩) fun hc2 => ⟨rfl, fun x => ?_⟩
    have := of_decide_eq_false x
    omega
  obtain ⟨rfl, hb⟩ := hJ
  refine brB (fun _ => ⟨rfl, e1⟩) fun hbf => ?_
  obtain ⟨la, lb, lx⟩ := hb hbf
  refine status_New_ok (At.of_ext e1) fun h3 d ty H => ?_
  refine loop1 (s1 := .one (.int .i64)) (fun (x : Int) h4 => ∃ (j : Nat) (s : Sl) (t : List SRow), x = j ∧ j ≤ xa.length ∧ At hB h4 (tabL d ty s t ++ []) ∧ SOk j t) (fun (x : Int) _ => (xa.length - x).toNat)
    ⟨0, _, [], rfl, Nat.zero_le _, H, new_sok⟩ fun _ (x : Int) h4 hI => ?_
  obtain ⟨j, s, t, rfl, hj, H, ho⟩ := hI
  refine brD (fun hc => ?_) fun hc => ?_
  · have hj2 : j < xa.length := by omega
    refine ixR (H.arg A) j rfl hj2 fun e he => ?_
    repeat (first | with_reducible refine nn ?_ | with_reducible refine let_ ?_ | with_reducible refine brSome ?_ | with_reducible refine brF ?_ | with_reducible refine brT ?_ | ((with_reducible apply ldAt H 0); exact rfl; exact rfl) | ((with_reducible apply ldAt0 H 0); exact rfl; exact rfl) | ((with_reducible apply ldR (H.arg A)); assumption; (case hk => assumption); exact rfl) | ((with_reducible apply ldR0 (H.arg A)); assumption; (case hk => assumption); exact rfl) | ((with_reducible apply stAt H 0); exact rfl; exact rfl; intro h H) | ((with_reducible apply stAt0 H 0); exact rfl; exact rfl; intro h H) | ((with_reducible apply allocAt H); intro h b H) | ((with_reducible refine ⟨?_, ?_⟩); first | ((with_reducible apply ldAt H 0); exact rfl; exact rfl; exact rfl) | ((with_reducible apply ldAt0 H 0); exact rfl; exact rfl; exact rfl)))
    refine law16_do_ok (a := xa[j]) H.tail ho (by omega) (hka _ (List.getElem_mem hj2)).1 fun h5 s H => ?_
    rw [w64 (by omega) (by omega)]
    exact ⟨⟨j + 1, s, _, by omega, by omega, H, ho.act _⟩, by omega⟩
  · have hln := ho.len
    refine status_Rows_ok H (by omega) fun r h5 H => ?_
    refine status_From_ok (H.rdo 0 rfl) (by omega) (fun hnr => absurd ⟨ho.srt, ho.ok⟩ hnr) fun hrt h6 d2 ty2 s2 H2 => ?_
    have H := (H.join H2)
    have H : At hB h6 (tabL d2 ty2 s2 t ++ (tabL d ty s t ++ [])) := H.del 2
    refine brF ?_
    refine loop1 (s1 := .one (.int .i64)) (fun (x : Int) h7 => ∃ (i : Nat) (s s2 : Sl) (t : List SRow), x = i ∧ i ≤ xb.length ∧ At hB h7 (tabL d2 ty2 s2 t ++ (tabL d ty s t ++ [])) ∧ SOk (60 + i) t) (fun (x : Int) _ => (xb.length - x).toNat)
      ⟨0, s, s2, t, rfl, Nat.zero_le _, H, ho.mono (by omega)⟩ fun _ (x : Int) h7 hI => ?_
    obtain ⟨i, s, s2, t, rfl, hi, H, ho⟩ := hI
    refine brD (fun hc => ?_) fun hc => ?_
    · have hi2 : i < xb.length := by omega
      have hkd := (hkb _ (List.getElem_mem hi2)).1
      refine ixR (H.arg B) i rfl hi2 fun e he => ?_
      repeat (first | with_reducible refine nn ?_ | with_reducible refine let_ ?_ | with_reducible refine brSome ?_ | with_reducible refine brF ?_ | with_reducible refine brT ?_ | ((with_reducible apply ldAt H 0); exact rfl; exact rfl) | ((with_reducible apply ldAt0 H 0); exact rfl; exact rfl) | ((with_reducible apply ldR (H.arg B)); assumption; (case hk => assumption); exact rfl) | ((with_reducible apply ldR0 (H.arg B)); assumption; (case hk => assumption); exact rfl) | ((with_reducible apply stAt H 0); exact rfl; exact rfl; intro h H) | ((with_reducible apply stAt0 H 0); exact rfl; exact rfl; intro h H) | ((with_reducible apply allocAt H); intro h b H) | ((with_reducible refine ⟨?_, ?_⟩); first | ((with_reducible apply ldAt H 0); exact rfl; exact rfl; exact rfl) | ((with_reducible apply ldAt0 H 0); exact rfl; exact rfl; exact rfl)))
      refine law16_do_ok (a := xb[i]) (F := _ :: _) (H.mv 3 2) ho (by omega) hkd fun h8 s H => ?_
      repeat (first | with_reducible refine nn ?_ | with_reducible refine let_ ?_ | with_reducible refine brSome ?_ | with_reducible refine brF ?_ | with_reducible refine brT ?_ | ((with_reducible apply ldAt H 0); exact rfl; exact rfl) | ((with_reducible apply ldAt0 H 0); exact rfl; exact rfl) | ((with_reducible apply ldAt H 1); exact rfl; exact rfl) | ((with_reducible apply ldAt0 H 1); exact rfl; exact rfl) | ((with_reducible apply ldAt H 2); exact rfl; exact rfl) | ((with_reducible apply ldAt0 H 2); exact rfl; exact rfl) | ((with_reducible apply stAt H 0); exact rfl; exact rfl; intro h H) | ((with_reducible apply stAt0 H 0); exact rfl; exact rfl; intro h H) | ((with_reducible apply stAt H 1); exact rfl; exact rfl; intro h H) | ((with_reducible apply stAt0 H 1); exact rfl; exact rfl; intro h H) | ((with_reducible apply stAt H 2); exact rfl; exact rfl; intro h H) | ((with_reducible apply stAt0 H 2); exact rfl; exact rfl; intro h H) | ((with_reducible apply allocAt H); intro h b H) | ((with_reducible refine ⟨?_, ?_⟩); first | ((with_reducible apply ldAt H 0); exact rfl; exact rfl; exact rfl) | ((with_reducible apply ldAt0 H 0); exact rfl; exact rfl; exact rfl) | ((with_reducible apply ldAt H 1); exact rfl; exact rfl; exact rfl) | ((with_reducible apply ldAt0 H 1); exact rfl; exact rfl; exact rfl) | ((with_reducible apply ldAt H 2); exact rfl; exact rfl; exact rfl) | ((with_reducible apply ldAt0 H 2); exact rfl; exact rfl; exact rfl)))
      refine law16_do_ok (a := xb[i]) (F := tabL d ty s _ ++ _) (H.mv 3 2) ho (by omega) hkd fun h9 s2 H => ?_
      refine brN (by simp) (brN (by simp) ?_)
      rw [w64 (by omega) (by omega)]
      exact ⟨⟨i + 1, s, s2, _, by omega, by omega, H.del 4, by have := ho.act xb[i]; rwa [Nat.add_assoc] at this⟩, by omega⟩
    · have hln := ho.len
      -- what both tables tell, at the end
      have fin : ∀ {h' : Heap} {M : List Res} {R : Bool → Heap → Prop}, At hB h' (tabL d2 ty2 s2 t ++ (tabL d ty s t ++ M)) → (∀ h'', Ext hB.size hB h'' → R true h'') → C_status_Table_Rows (some ⟨d, 0, none⟩) h' fun r14 h_31 => C_status_Table_Rows (some ⟨d2, 0, none⟩) h_31 fun r15 h_32 => C_law16_same r14 r15 h_32 R := fun {h' M R} H hR => by
        refine status_Rows_ok (F := tabL d2 ty2 s2 t ++ M) (H.mv 2 2) (by omega) fun ra ha H => ?_
        refine status_Rows_ok (F := _ :: _) (H.mv 3 2) (by omega) fun rb hb H => ?_
        refine law16_same_ok (H.rdo 3 rfl) (H.rdo 0 rfl) (by omega) fun q hq => ?_
        rw [hq.2 rfl]
        exact hR _ H.ext
      refine status_From_ok (w2.ext' H.ext) (by omega) (fun hnr h8 he => ?_) fun hrr h8 d3 ty3 s3 H3 => ?_
      · have H := H.ext' he
        refine rightLoop_ok H w2 (by omega) fun q h9 hq H => ?_
        have hqf : q = false := by
          cases hqq : q with
          | false => rfl
          | true => exact absurd (hq.1 hqq) hnr
        subst hqf
        refine brT (join1 (s1 := .one .bool) (fun (b : Bool) h10 => b = true ∧ Ext hB.size hB h10) (fun _ b h10 hJ => hJ) ?_)
        refine brY rfl (brY rfl ?_)
        exact fin H fun h'' he => ⟨rfl, he⟩
      · have H := H.join H3
        have H : At hB h8 (tabL d2 ty2 s2 t ++ (tabL d ty s t ++ tabL d3 ty3 s3 xs)) := H.mv 2 4
        refine rightLoop_ok H w2 (by omega) fun q h9 hq H => ?_
        have hqt : q = true := hq.2 hrr
        subst hqt
        refine brF (brY rfl ?_)
        refine status_Rows_ok (F := tabL d2 ty2 s2 t ++ tabL d ty s t) (H.mv 4 2) (by omega) fun r17 h10 H => ?_
        refine law16_same_ok (H.rdo 0 rfl) (H.arg w2) (by omega) fun q hq => ?_
        refine brY (hq.2 rfl) ?_
        refine fin (M := []) (h' := h10) ?_ fun h'' he => ⟨rfl, he⟩
        exact (H.mv 3 4).keep 4
end Go.Proofs.Ytmpekddpehhdnaa
