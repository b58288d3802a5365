/-
  Layer 14 (chase): the document's graph (ref13): who is the youngest of a cycle. (Printed by gen/mkkr.py out of gen/XKg.src.)
-/
import Derived.Test.YtmpekddpehhdnaaKl
import Derived.Test.YtmpekddpehhdnaaKs
namespace Go.Proofs.Ytmpekddpehhdnaa
open Go

def eGN : Enc CN 2 := ⟨fun a => [.int .i64 a.id, .int .i64 a.stamp], fun _ => rfl, by decide, fun x u hu => by
  simp only [List.mem_cons, List.not_mem_nil, or_false] at hu
  rcases hu with rfl | rfl <;> rfl⟩
theorem TGN : ElemT Try.prog 158 162 2 16 := .of (by kernel_rfl)
def gl (d : Nat) (ty : TypeId) (sG sE : Sl) (N : List CN) (E : List CE) : List Res := [.blk d ty [.slice sG.a sG.n sG.c, .slice sE.a sE.n sE.c], .own sG 2 (eGN.fl N), .own sE 2 (eCE.fl E)]
/-- The edges are the nodes'. -/
structure EdgOk (N : List CN) (E : List CE) : Prop where
  uniq : UniqN N
  len : N.length ≤ 64
  ends : ∀ e ∈ E, hasN N e.from_ ∧ hasN N e.to
  mem : ∀ u t, edg N u t ↔ ∃ e ∈ E, e.from_ = u ∧ e.to = t
theorem RelK.edgOk {C : CF} {E : List CE} {Hd : List CS} {s k : Nat} (hr : RelK C E Hd) (ho : COk s k C) : EdgOk C.N E := by
  refine ⟨ho.uniq, ho.len, hr.ends, fun u t => ⟨fun h => (hr.mem ho (edg_has h)).1 h, fun h => ?_⟩⟩
  obtain ⟨e, he, h1, h2⟩ := h
  exact (hr.mem ho (h1 ▸ (hr.ends e he).1)).2 ⟨e, he, h1, h2⟩
section
variable {h0 h : Heap} {G F : List Res} {d : Nat} {ty : TypeId} {sG sE : Sl} {N : List CN} {E : List CE}
theorem ref13_Stamp_ok {x : Int} {R : Int → Bool → Heap → Prop} (H : At h0 h (gl d ty sG sE N E ++ G)) (hu : UniqN N) (hlen : N.length ≤ 64) (hb : ¬ hasN N x → ∀ h', At h0 h' (gl d ty sG sE N E ++ G) → R 0 false h')
    (hg : hasN N x → ∀ h', At h0 h' (gl d ty sG sE N E ++ G) → R (nd N x).stamp true h') : C_ref13_Graph_Stamp (some ⟨d, 0, none⟩) x h R := by
  refine A_ref13_Graph_Stamp ?_
  unfold S_ref13_Graph_Stamp
  have hsn := H.n 1 rfl
  repeat (first | with_reducible refine nn ?_ | with_reducible refine let_ ?_ | with_reducible refine brSome ?_ | with_reducible refine brF ?_ | with_reducible refine brT ?_ | ((with_reducible apply ldAt H 0); exact rfl; exact rfl) | ((with_reducible apply ldAt0 H 0); exact rfl; exact rfl) | ((with_reducible apply stAt H 0); exact rfl; exact rfl; intro h H) | ((with_reducible apply stAt0 H 0); exact rfl; exact rfl; intro h H) | ((with_reducible refine ⟨?_, ?_⟩); first | ((with_reducible apply ldAt H 0); exact rfl; exact rfl; exact rfl) | ((with_reducible apply ldAt0 H 0); exact rfl; exact rfl; exact rfl)))
  refine loop1 (s1 := .one (.int .i64)) (fun (y : Int) h1 => ∃ j : Nat, y = j ∧ j ≤ N.length ∧ At h0 h1 (gl d ty sG sE N E ++ G) ∧ ∀ i, (hi : i < N.length) → i < j → N[i].id ≠ x) (fun (y : Int) _ => (N.length - y).toNat)
    ⟨0, rfl, Nat.zero_le _, H, fun i _ hi => absurd hi (Nat.not_lt_zero _)⟩ fun _ (y : Int) h1 hI => ?_
  obtain ⟨j, rfl, hj, H, hno⟩ := hI
  refine brD (fun hc => ?_) fun hc => ?_
  · have hj2 : j < N.length := by omega
    refine ixAt H 1 rfl j rfl hj2 fun e he => ?_
    repeat (first | with_reducible refine nn ?_ | with_reducible refine let_ ?_ | with_reducible refine brSome ?_ | with_reducible refine brF ?_ | with_reducible refine brT ?_ | ((with_reducible apply ldAt H 0); exact rfl; exact rfl) | ((with_reducible apply ldAt0 H 0); exact rfl; exact rfl) | ((with_reducible apply ldAt H 1); exact rfl; exact rfl) | ((with_reducible apply ldAt0 H 1); exact rfl; exact rfl) | ((with_reducible apply ldEl H 0); exact rfl; assumption; (case hk => assumption); exact rfl) | ((with_reducible apply ldEl0 H 0); exact rfl; assumption; (case hk => assumption); exact rfl) | ((with_reducible apply ldElS H 0); exact rfl; assumption; (case hk => assumption); exact rfl) | ((with_reducible apply ldElS0 H 0); exact rfl; assumption; (case hk => assumption); exact rfl) | ((with_reducible apply ldEl H 1); exact rfl; assumption; (case hk => assumption); exact rfl) | ((with_reducible apply ldEl0 H 1); exact rfl; assumption; (case hk => assumption); exact rfl) | ((with_reducible apply ldElS H 1); exact rfl; assumption; (case hk => assumption); exact rfl) | ((with_reducible apply ldElS0 H 1); exact rfl; assumption; (case hk => assumption); exact rfl) | ((with_reducible apply stAt H 0); exact rfl; exact rfl; intro h H) | ((with_reducible apply stAt0 H 0); exact rfl; exact rfl; intro h H) | ((with_reducible apply stAt H 1); exact rfl; exact rfl; intro h H) | ((with_reducible apply stAt0 H 1); exact rfl; exact rfl; intro h H) | ((with_reducible apply stElS (E := eGN) ⟨_, _⟩ H 0); exact rfl; assumption; (case hk => assumption); exact rfl; (first | exact rfl | (dsimp only [eGN, List.set_cons_succ, List.set_cons_zero] <;> exact rfl)); intro h H) | ((with_reducible apply stElS0 (E := eGN) ⟨_, _⟩ H 0); exact rfl; assumption; (case hk => assumption); (first | exact rfl | (dsimp only [eGN, List.set_cons_succ, List.set_cons_zero] <;> exact rfl)); intro h H) | ((with_reducible apply stEl (E := eGN) ⟨_, _⟩ H 0); exact rfl; assumption; (case hk => assumption); exact rfl; (first | exact rfl | (dsimp only [eGN, List.set_cons_succ, List.set_cons_zero] <;> exact rfl)); intro h H) | ((with_reducible apply stEl0 (E := eGN) ⟨_, _⟩ H 0); exact rfl; assumption; (case hk => assumption); (first | exact rfl | (dsimp only [eGN, List.set_cons_succ, List.set_cons_zero] <;> exact rfl)); intro h H) | ((with_reducible apply stElS (E := eGN) ⟨_, _⟩ H 1); exact rfl; assumption; (case hk => assumption); exact rfl; (first | exact rfl | (dsimp only [eGN, List.set_cons_succ, List.set_cons_zero] <;> exact rfl)); intro h H) | ((with_reducible apply stElS0 (E := eGN) ⟨_, _⟩ H 1); exact rfl; assumption; (case hk => assumption); (first | exact rfl | (dsimp only [eGN, List.set_cons_succ, List.set_cons_zero] <;> exact rfl)); intro h H) | ((with_reducible apply stEl (E := eGN) ⟨_, _⟩ H 1); exact rfl; assumption; (case hk => assumption); exact rfl; (first | exact rfl | (dsimp only [eGN, List.set_cons_succ, List.set_cons_zero] <;> exact rfl)); intro h H) | ((with_reducible apply stEl0 (E := eGN) ⟨_, _⟩ H 1); exact rfl; assumption; (case hk => assumption); (first | exact rfl | (dsimp only [eGN, List.set_cons_succ, List.set_cons_zero] <;> exact rfl)); intro h H) | ((with_reducible apply allocAt H); intro h b H) | ((with_reducible refine ⟨?_, ?_⟩); first | ((with_reducible apply ldAt H 0); exact rfl; exact rfl; exact rfl) | ((with_reducible apply ldAt0 H 0); exact rfl; exact rfl; exact rfl) | ((with_reducible apply ldAt H 1); exact rfl; exact rfl; exact rfl) | ((with_reducible apply ldAt0 H 1); exact rfl; exact rfl; exact rfl) | ((with_reducible apply ldEl H 0); exact rfl; assumption; (case hk => assumption); exact rfl; exact rfl) | ((with_reducible apply ldEl0 H 0); exact rfl; assumption; (case hk => assumption); exact rfl; exact rfl) | ((with_reducible apply ldElS H 0); exact rfl; assumption; (case hk => assumption); exact rfl; exact rfl) | ((with_reducible apply ldElS0 H 0); exact rfl; assumption; (case hk => assumption); exact rfl; exact rfl) | ((with_reducible apply ldEl H 1); exact rfl; assumption; (case hk => assumption); exact rfl; exact rfl) | ((with_reducible apply ldEl0 H 1); exact rfl; assumption; (case hk => assumption); exact rfl; exact rfl) | ((with_reducible apply ldElS H 1); exact rfl; assumption; (case hk => assumption); exact rfl; exact rfl) | ((with_reducible apply ldElS0 H 1); exact rfl; assumption; (case hk => assumption); exact rfl; exact rfl)))
    refine br beq_iff_eq (fun hx => ?_) fun hx => ?_
    · repeat (first | with_reducible refine nn ?_ | with_reducible refine let_ ?_ | with_reducible refine brSome ?_ | with_reducible refine brF ?_ | with_reducible refine brT ?_ | ((with_reducible apply ldAt H 0); exact rfl; exact rfl) | ((with_reducible apply ldAt0 H 0); exact rfl; exact rfl) | ((with_reducible apply stAt H 0); exact rfl; exact rfl; intro h H) | ((with_reducible apply stAt0 H 0); exact rfl; exact rfl; intro h H) | ((with_reducible refine ⟨?_, ?_⟩); first | ((with_reducible apply ldAt H 0); exact rfl; exact rfl; exact rfl) | ((with_reducible apply ldAt0 H 0); exact rfl; exact rfl; exact rfl)))
      have hnd : nd N x = N[j] := by rw [← hx]; exact nd_eq hu (List.getElem_mem hj2)
      have := hg ⟨_, List.getElem_mem hj2, hx⟩ _ H.tail
      rw [hnd] at this
      exact this
    rw [w64 (by omega) (by omega)]
    refine ⟨⟨j + 1, by omega, by omega, H.tail, fun i hi hij => ?_⟩, by omega⟩
    by_cases e : i < j
    · exact hno i hi e
    · obtain rfl : i = j := by omega
      exact hx
  · refine hb (fun ⟨n, hn, e⟩ => ?_) _ H
    obtain ⟨i, hi, rfl⟩ := List.getElem_of_mem hn
    exact hno i hi (by omega) e
theorem ref13_Elder_ok {a b : Int} {R : Bool → Heap → Prop} (H : At h0 h (gl d ty sG sE N E ++ G)) (hu : UniqN N) (hlen : N.length ≤ 64) (ha : hasN N a) (hb : hasN N b)
    (hR : ∀ h', At h0 h' (gl d ty sG sE N E ++ G) → R (decide (eld N a b)) h') : C_ref13_Graph_Elder (some ⟨d, 0, none⟩) a b h R := by
  refine A_ref13_Graph_Elder ?_
  unfold S_ref13_Graph_Elder
  refine ref13_Stamp_ok H hu hlen (fun x => absurd ha x) fun _ h1 H => ref13_Stamp_ok H hu hlen (fun x => absurd hb x) fun _ h2 H => ?_
  have hR := hR h2 H
  refine brT (brT (brD (fun h3 => ?_) fun h3 => ?_))
  · rw [decide_eq_true (show eld N a b from .inl h3)] at hR; exact hR
  · refine br beq_iff_eq (fun h4 => ?_) fun h4 => ?_
    · have e : decide (eld N a b) = decide (a < b) := by
        rw [decide_eq_decide]; unfold eld
        exact ⟨fun x => by omega, fun x => .inr ⟨h4, x⟩⟩
      rw [e] at hR; exact hR
    · rw [decide_eq_false (show ¬ eld N a b from fun x => by unfold eld at x; omega)] at hR; exact hR
/-- One has been looked at. -/
def Proc (N : List CN) (x : Int) (S : List Int) (u : Int) : Prop := ∀ t, edg N u t → t ≠ x ∧ (eld N t x → t ∈ S)
structure WayI (N : List CN) (x : Int) (S T : List Int) (y : Int → Prop) : Prop where
  s : ∀ u ∈ S, EP N x u ∧ eld N u x
  t : ∀ u ∈ T, u = x ∨ u ∈ S
  p : ∀ u, (u = x ∨ u ∈ S) → u ∈ T ∨ Proc N x S u ∨ y u
  nd : S.Nodup
theorem WayI.len {x : Int} {S T : List Int} {y : Int → Prop} (w : WayI N x S T y) (he : EdgOk N E) : S.length ≤ 64 := by
  have := pigeon S (N.map (·.id)) w.nd fun u hu => by
    obtain ⟨h1, _⟩ := w.s u hu
    have : hasN N u := by
      cases h1 with
      | one h => obtain ⟨e, h2, _, h3⟩ := (he.mem _ _).1 h; rw [← h3]; exact (he.ends e h2).2
      | step _ _ h => obtain ⟨e, h2, _, h3⟩ := (he.mem _ _).1 h; rw [← h3]; exact (he.ends e h2).2
    obtain ⟨m, hm, e⟩ := this
    exact List.mem_map.2 ⟨m, hm, e⟩
  rw [List.length_map] at this
  have := he.len
  omega
theorem WayI.no {x : Int} {S : List Int} (w : WayI N x S [] fun _ => False) : ¬ EP N x x := by
  have hp : ∀ u, (u = x ∨ u ∈ S) → Proc N x S u := fun u hu => by
    rcases w.p u hu with h | h | h
    · cases h
    · exact h
    · exact h.elim
  have key : ∀ t, EP N x t → t ≠ x ∧ (eld N t x → t ∈ S) := by
    intro t ht
    induction ht with
    | one h => exact hp _ (.inl rfl) _ h
    | step h1 h2 h3 ih => exact hp _ (.inr (ih.2 h2)) _ h3
  exact fun h => (key x h).1 rfl
set_option maxHeartbeats 1600000 in
theorem ref13_way_ok {x : Int} {R : Bool → Heap → Prop} (H : At h0 h (gl d ty sG sE N E ++ G)) (he : EdgOk N E) (hx : hasN N x) (hx0 : 0 ≤ x) (hEl : E.length ≤ 100000)
    (hR : ∀ q h', (q = true ↔ EP N x x) → At h0 h' (gl d ty sG sE N E ++ G) → R q h') : C_ref13_Graph_way (some ⟨d, 0, none⟩) x x x h R := by
  refine A_ref13_Graph_way ?_
  unfold S_ref13_Graph_way
  have hen := H.n 2 rfl
  refine allocAt (cs := []) H fun h1 b H => ?_
  have H := H.as_ 0 rfl (.own ⟨some ⟨b, 0, none⟩, 0, 0⟩ 1 (eNum.fl [])) (Own.full (H.get 0 rfl : Blk h1 b _ []) (sz := 1) (n := 0) rfl (by decide)) (fun g hg => by have hg : some b = some g := hg; injection hg with hg; exact hg.symm)
  refine allocAt (cs := eNum.cells x) H fun h2 b1 H => ?_
  have H := H.as_ 0 rfl (.own ⟨some ⟨b1, 0, none⟩, 1, 1⟩ 1 (eNum.fl [x])) (Own.full (H.get 0 rfl : Blk h2 b1 _ (eNum.cells x)) (sz := 1) (n := 1) rfl (by decide)) (fun g hg => by have hg : some b1 = some g := hg; injection hg with hg; exact hg.symm)
  refine loop2 (s1 := .one .sl) (s2 := .one .sl) (fun (sS sT : Sl) h3 => ∃ (S T : List Int), WayI N x S T (fun _ => False) ∧ T.length ≤ S.length + 1 ∧ At h0 h3 (.own sT 1 (eNum.fl T) :: .own sS 1 (eNum.fl S) :: (gl d ty sG sE N E ++ G))) (fun (sS sT : Sl) _ => 2 * (64 - sS.n) + sT.n)
    ⟨[], [x], ⟨(fun u hu => by cases hu), fun u hu => .inl (List.mem_singleton.1 hu), fun u hu => .inl (by rcases hu with rfl | hu; exact List.mem_cons_self ..; cases hu), List.Pairwise.nil⟩, by simp, H⟩ fun _ (sS sT : Sl) h3 hI => ?_
  obtain ⟨S, T, w, hT, H⟩ := hI
  have hl0 := w.len he
  have hSn := H.n 1 rfl
  have hTn := H.n 0 rfl
  have hTc := (H.own 0 rfl).2.1
  refine brD (fun hc => ?_) fun hc => ?_
  · cases T with
    | nil => simp at hTn; omega
    | cons y T =>
    rw [List.length_cons] at hTn hT
    have hp0 : 0 < (y :: T).length := by simp
    refine ixAt H 0 rfl 0 rfl hp0 fun e he2 => ?_
    refine ldEl0 (E := eNum) H 0 rfl he2 hp0 y rfl ?_
    refine cutRO (E := eNum) TNum (H.own 0 rfl) 1 sT.n sT.c (loi rfl) (hi0 _) (.inl ⟨rfl, rfl⟩) (by omega) (by rw [List.length_cons]; omega) hTc (Nat.le_refl _) fun s2 o2 n2 c2 b2 => ?_
    rw [List.drop_succ_cons, List.drop_zero, List.take_of_length_le (by omega)] at o2
    have H := H.as_ 0 rfl (.own s2 1 (eNum.fl T)) o2 (fun g hg => by rw [Res.fp, ← b2]; exact hg)
    refine nn (ldAt (j := 1) H 2 rfl sE rfl ?_)
    have hy : y = x ∨ y ∈ S := w.t y (List.mem_cons_self ..)
    have w0 : WayI N x S T fun u => u = y := ⟨w.s, fun u hu => w.t u (List.mem_cons_of_mem _ hu), fun u hu => by
      rcases w.p u hu with h | h | h
      · rcases List.mem_cons.1 h with h | h
        · exact .inr (.inr h)
        · exact .inl h
      · exact .inr (.inl h)
      · exact h.elim, w.nd⟩
    refine loop3 (s1 := .one .sl) (s2 := .one .sl) (s3 := .one (.int .i64)) (fun (sS1 sT1 : Sl) (z : Int) h4 => ∃ (i : Nat) (S1 T1 : List Int), z = i ∧ i ≤ E.length ∧ WayI N x S1 T1 (fun u => u = y) ∧ (y = x ∨ y ∈ S1) ∧ (∀ j, (hj : j < E.length) → j < i → E[j].from_ = y → E[j].to ≠ x ∧ (eld N E[j].to x → E[j].to ∈ S1)) ∧ 2 * (64 - S1.length) + T1.length ≤ 2 * (64 - S.length) + T.length ∧ T1.length ≤ S1.length + 1 ∧
        At h0 h4 (.own sT1 1 (eNum.fl T1) :: .own sS1 1 (eNum.fl S1) :: (gl d ty sG sE N E ++ G))) (fun _ _ (z : Int) _ => (E.length - z).toNat)
      ⟨0, S, T, rfl, Nat.zero_le _, w0, hy, (fun j _ hj => absurd hj (Nat.not_lt_zero _)), Nat.le_refl _, by omega, H⟩ fun _ (sS1 sT1 : Sl) (z : Int) h4 hI => ?_
    clear H w0 hy
    obtain ⟨i, S1, T1, rfl, hi, w1, hy, hdone, hms, hlT, H⟩ := hI
    have hl1 := w1.len he
    have hS1n := H.n 1 rfl
    have hT1n := H.n 0 rfl
    refine brD (fun hc2 => ?_) fun hc2 => ?_
    · have hi2 : i < E.length := by omega
      refine ixAt H 4 rfl i rfl hi2 fun e3 he3 => ?_
      repeat (first | with_reducible refine nn ?_ | with_reducible refine let_ ?_ | with_reducible refine brSome ?_ | with_reducible refine brF ?_ | with_reducible refine brT ?_ | ((with_reducible apply ldAt H 0); exact rfl; exact rfl) | ((with_reducible apply ldAt0 H 0); exact rfl; exact rfl) | ((with_reducible apply ldAt H 1); exact rfl; exact rfl) | ((with_reducible apply ldAt0 H 1); exact rfl; exact rfl) | ((with_reducible apply ldAt H 2); exact rfl; exact rfl) | ((with_reducible apply ldAt0 H 2); exact rfl; exact rfl) | ((with_reducible apply ldAt H 3); exact rfl; exact rfl) | ((with_reducible apply ldAt0 H 3); exact rfl; exact rfl) | ((with_reducible apply ldAt H 4); exact rfl; exact rfl) | ((with_reducible apply ldAt0 H 4); exact rfl; exact rfl) | ((with_reducible apply ldEl H 0); exact rfl; assumption; (case hk => assumption); exact rfl) | ((with_reducible apply ldEl0 H 0); exact rfl; assumption; (case hk => assumption); exact rfl) | ((with_reducible apply ldElS H 0); exact rfl; assumption; (case hk => assumption); exact rfl) | ((with_reducible apply ldElS0 H 0); exact rfl; assumption; (case hk => assumption); exact rfl) | ((with_reducible apply ldEl H 1); exact rfl; assumption; (case hk => assumption); exact rfl) | ((with_reducible apply ldEl0 H 1); exact rfl; assumption; (case hk => assumption); exact rfl) | ((with_reducible apply ldElS H 1); exact rfl; assumption; (case hk => assumption); exact rfl) | ((with_reducible apply ldElS0 H 1); exact rfl; assumption; (case hk => assumption); exact rfl) | ((with_reducible apply ldEl H 2); exact rfl; assumption; (case hk => assumption); exact rfl) | ((with_reducible apply ldEl0 H 2); exact rfl; assumption; (case hk => assumption); exact rfl) | ((with_reducible apply ldElS H 2); exact rfl; assumption; (case hk => assumption); exact rfl) | ((with_reducible apply ldElS0 H 2); exact rfl; assumption; (case hk => assumption); exact rfl) | ((with_reducible apply ldEl H 3); exact rfl; assumption; (case hk => assumption); exact rfl) | ((with_reducible apply ldEl0 H 3); exact rfl; assumption; (case hk => assumption); exact rfl) | ((with_reducible apply ldElS H 3); exact rfl; assumption; (case hk => assumption); exact rfl) | ((with_reducible apply ldElS0 H 3); exact rfl; assumption; (case hk => assumption); exact rfl) | ((with_reducible apply ldEl H 4); exact rfl; assumption; (case hk => assumption); exact rfl) | ((with_reducible apply ldEl0 H 4); exact rfl; assumption; (case hk => assumption); exact rfl) | ((with_reducible apply ldElS H 4); exact rfl; assumption; (case hk => assumption); exact rfl) | ((with_reducible apply ldElS0 H 4); exact rfl; assumption; (case hk => assumption); exact rfl) | ((with_reducible apply stAt H 0); exact rfl; exact rfl; intro h H) | ((with_reducible apply stAt0 H 0); exact rfl; exact rfl; intro h H) | ((with_reducible apply stAt H 1); exact rfl; exact rfl; intro h H) | ((with_reducible apply stAt0 H 1); exact rfl; exact rfl; intro h H) | ((with_reducible apply stAt H 2); exact rfl; exact rfl; intro h H) | ((with_reducible apply stAt0 H 2); exact rfl; exact rfl; intro h H) | ((with_reducible apply stAt H 3); exact rfl; exact rfl; intro h H) | ((with_reducible apply stAt0 H 3); exact rfl; exact rfl; intro h H) | ((with_reducible apply stAt H 4); exact rfl; exact rfl; intro h H) | ((with_reducible apply stAt0 H 4); exact rfl; exact rfl; intro h H) | ((with_reducible apply stElS (E := eCE) ⟨_, _⟩ H 0); exact rfl; assumption; (case hk => assumption); exact rfl; (first | exact rfl | (dsimp only [eCE, List.set_cons_succ, List.set_cons_zero] <;> exact rfl)); intro h H) | ((with_reducible apply stElS0 (E := eCE) ⟨_, _⟩ H 0); exact rfl; assumption; (case hk => assumption); (first | exact rfl | (dsimp only [eCE, List.set_cons_succ, List.set_cons_zero] <;> exact rfl)); intro h H) | ((with_reducible apply stEl (E := eCE) ⟨_, _⟩ H 0); exact rfl; assumption; (case hk => assumption); exact rfl; (first | exact rfl | (dsimp only [eCE, List.set_cons_succ, List.set_cons_zero] <;> exact rfl)); intro h H) | ((with_reducible apply stEl0 (E := eCE) ⟨_, _⟩ H 0); exact rfl; assumption; (case hk => assumption); (first | exact rfl | (dsimp only [eCE, List.set_cons_succ, List.set_cons_zero] <;> exact rfl)); intro h H) | ((with_reducible apply stElS (E := eCE) ⟨_, _⟩ H 1); exact rfl; assumption; (case hk => assumption); exact rfl; (first | exact rfl | (dsimp only [eCE, List.set_cons_succ, List.set_cons_zero] <;> exact rfl)); intro h H) | ((with_reducible apply stElS0 (E := eCE) ⟨_, _⟩ H 1); exact rfl; assumption; (case hk => assumption); (first | exact rfl | (dsimp only [eCE, List.set_cons_succ, List.set_cons_zero] <;> exact rfl)); intro h H) | ((with_reducible apply stEl (E := eCE) ⟨_, _⟩ H 1); exact rfl; assumption; (case hk => assumption); exact rfl; (first | exact rfl | (dsimp only [eCE, List.set_cons_succ, List.set_cons_zero] <;> exact rfl)); intro h H) | ((with_reducible apply stEl0 (E := eCE) ⟨_, _⟩ H 1); exact rfl; assumption; (case hk => assumption); (first | exact rfl | (dsimp only [eCE, List.set_cons_succ, List.set_cons_zero] <;> exact rfl)); intro h H) | ((with_reducible apply stElS (E := eCE) ⟨_, _⟩ H 2); exact rfl; assumption; (case hk => assumption); exact rfl; (first | exact rfl | (dsimp only [eCE, List.set_cons_succ, List.set_cons_zero] <;> exact rfl)); intro h H) | ((with_reducible apply stElS0 (E := eCE) ⟨_, _⟩ H 2); exact rfl; assumption; (case hk => assumption); (first | exact rfl | (dsimp only [eCE, List.set_cons_succ, List.set_cons_zero] <;> exact rfl)); intro h H) | ((with_reducible apply stEl (E := eCE) ⟨_, _⟩ H 2); exact rfl; assumption; (case hk => assumption); exact rfl; (first | exact rfl | (dsimp only [eCE, List.set_cons_succ, List.set_cons_zero] <;> exact rfl)); intro h H) | ((with_reducible apply stEl0 (E := eCE) ⟨_, _⟩ H 2); exact rfl; assumption; (case hk => assumption); (first | exact rfl | (dsimp only [eCE, List.set_cons_succ, List.set_cons_zero] <;> exact rfl)); intro h H) | ((with_reducible apply stElS (E := eCE) ⟨_, _⟩ H 3); exact rfl; assumption; (case hk => assumption); exact rfl; (first | exact rfl | (dsimp only [eCE, List.set_cons_succ, List.set_cons_zero] <;> exact rfl)); intro h H) | ((with_reducible apply stElS0 (E := eCE) ⟨_, _⟩ H 3); exact rfl; assumption; (case hk => assumption); (first | exact rfl | (dsimp only [eCE, List.set_cons_succ, List.set_cons_zero] <;> exact rfl)); intro h H) | ((with_reducible apply stEl (E := eCE) ⟨_, _⟩ H 3); exact rfl; assumption; (case hk => assumption); exact rfl; (first | exact rfl | (dsimp only [eCE, List.set_cons_succ, List.set_cons_zero] <;> exact rfl)); intro h H) | ((with_reducible apply stEl0 (E := eCE) ⟨_, _⟩ H 3); exact rfl; assumption; (case hk => assumption); (first | exact rfl | (dsimp only [eCE, List.set_cons_succ, List.set_cons_zero] <;> exact rfl)); intro h H) | ((with_reducible apply stElS (E := eCE) ⟨_, _⟩ H 4); exact rfl; assumption; (case hk => assumption); exact rfl; (first | exact rfl | (dsimp only [eCE, List.set_cons_succ, List.set_cons_zero] <;> exact rfl)); intro h H) | ((with_reducible apply stElS0 (E := eCE) ⟨_, _⟩ H 4); exact rfl; assumption; (case hk => assumption); (first | exact rfl | (dsimp only [eCE, List.set_cons_succ, List.set_cons_zero] <;> exact rfl)); intro h H) | ((with_reducible apply stEl (E := eCE) ⟨_, _⟩ H 4); exact rfl; assumption; (case hk => assumption); exact rfl; (first | exact rfl | (dsimp only [eCE, List.set_cons_succ, List.set_cons_zero] <;> exact rfl)); intro h H) | ((with_reducible apply stEl0 (E := eCE) ⟨_, _⟩ H 4); exact rfl; assumption; (case hk => assumption); (first | exact rfl | (dsimp only [eCE, List.set_cons_succ, List.set_cons_zero] <;> exact rfl)); intro h H) | ((with_reducible apply allocAt H); intro h b H) | ((with_reducible refine ⟨?_, ?_⟩); first | ((with_reducible apply ldAt H 0); exact rfl; exact rfl; exact rfl) | ((with_reducible apply ldAt0 H 0); exact rfl; exact rfl; exact rfl) | ((with_reducible apply ldAt H 1); exact rfl; exact rfl; exact rfl) | ((with_reducible apply ldAt0 H 1); exact rfl; exact rfl; exact rfl) | ((with_reducible apply ldAt H 2); exact rfl; exact rfl; exact rfl) | ((with_reducible apply ldAt0 H 2); exact rfl; exact rfl; exact rfl) | ((with_reducible apply ldAt H 3); exact rfl; exact rfl; exact rfl) | ((with_reducible apply ldAt0 H 3); exact rfl; exact rfl; exact rfl) | ((with_reducible apply ldAt H 4); exact rfl; exact rfl; exact rfl) | ((with_reducible apply ldAt0 H 4); exact rfl; exact rfl; exact rfl) | ((with_reducible apply ldEl H 0); exact rfl; assumption; (case hk => assumption); exact rfl; exact rfl) | ((with_reducible apply ldEl0 H 0); exact rfl; assumption; (case hk => assumption); exact rfl; exact rfl) | ((with_reducible apply ldElS H 0); exact rfl; assumption; (case hk => assumption); exact rfl; exact rfl) | ((with_reducible apply ldElS0 H 0); exact rfl; assumption; (case hk => assumption); exact rfl; exact rfl) | ((with_reducible apply ldEl H 1); exact rfl; assumption; (case hk => assumption); exact rfl; exact rfl) | ((with_reducible apply ldEl0 H 1); exact rfl; assumption; (case hk => assumption); exact rfl; exact rfl) | ((with_reducible apply ldElS H 1); exact rfl; assumption; (case hk => assumption); exact rfl; exact rfl) | ((with_reducible apply ldElS0 H 1); exact rfl; assumption; (case hk => assumption); exact rfl; exact rfl) | ((with_reducible apply ldEl H 2); exact rfl; assumption; (case hk => assumption); exact rfl; exact rfl) | ((with_reducible apply ldEl0 H 2); exact rfl; assumption; (case hk => assumption); exact rfl; exact rfl) | ((with_reducible apply ldElS H 2); exact rfl; assumption; (case hk => assumption); exact rfl; exact rfl) | ((with_reducible apply ldElS0 H 2); exact rfl; assumption; (case hk => assumption); exact rfl; exact rfl) | ((with_reducible apply ldEl H 3); exact rfl; assumption; (case hk => assumption); exact rfl; exact rfl) | ((with_reducible apply ldEl0 H 3); exact rfl; assumption; (case hk => assumption); exact rfl; exact rfl) | ((with_reducible apply ldElS H 3); exact rfl; assumption; (case hk => assumption); exact rfl; exact rfl) | ((with_reducible apply ldElS0 H 3); exact rfl; assumption; (case hk => assumption); exact rfl; exact rfl) | ((with_reducible apply ldEl H 4); exact rfl; assumption; (case hk => assumption); exact rfl; exact rfl) | ((with_reducible apply ldEl0 H 4); exact rfl; assumption; (case hk => assumption); exact rfl; exact rfl) | ((with_reducible apply ldElS H 4); exact rfl; assumption; (case hk => assumption); exact rfl; exact rfl) | ((with_reducible apply ldElS0 H 4); exact rfl; assumption; (case hk => assumption); exact rfl; exact rfl)))
      rename Nat => b4
      rw [w64 (by omega) (by omega)]
      have keepD : ∀ {S2 : List Int}, (∀ u ∈ S1, u ∈ S2) → (E[i].from_ = y → E[i].to ≠ x ∧ (eld N E[i].to x → E[i].to ∈ S2)) → ∀ j, (hj : j < E.length) → j < i + 1 → E[j].from_ = y → E[j].to ≠ x ∧ (eld N E[j].to x → E[j].to ∈ S2) := fun hsub h6 j hj hji h7 => by
        by_cases e : j < i
        · exact ⟨(hdone j hj e h7).1, fun h8 => hsub _ ((hdone j hj e h7).2 h8)⟩
        · obtain rfl : j = i := by omega
          exact h6 h7
      refine br bne_iff_ne (fun h6 => ⟨⟨i + 1, S1, T1, by omega, by omega, w1, hy, keepD (fun _ h => h) fun h7 => absurd h7 h6, hms, hlT, H.tail⟩, by omega⟩) fun h6 => ?_
      have h6 : E[i].from_ = y := Decidable.not_not.1 h6
      have hed : edg N y E[i].to := (he.mem _ _).2 ⟨_, List.getElem_mem hi2, h6, rfl⟩
      have hto := (he.ends _ (List.getElem_mem hi2)).2
      have hep : EP N x E[i].to := by
        rcases hy with h7 | h7
        · rw [h7] at hed; exact .one hed
        · exact .step (w1.s y h7).1 (w1.s y h7).2 hed
      repeat (first | with_reducible refine nn ?_ | with_reducible refine let_ ?_ | with_reducible refine brSome ?_ | with_reducible refine brF ?_ | with_reducible refine brT ?_ | ((with_reducible apply ldAt H 0); exact rfl; exact rfl) | ((with_reducible apply ldAt0 H 0); exact rfl; exact rfl) | ((with_reducible apply stAt H 0); exact rfl; exact rfl; intro h H) | ((with_reducible apply stAt0 H 0); exact rfl; exact rfl; intro h H) | ((with_reducible refine ⟨?_, ?_⟩); first | ((with_reducible apply ldAt H 0); exact rfl; exact rfl; exact rfl) | ((with_reducible apply ldAt0 H 0); exact rfl; exact rfl; exact rfl)))
      refine br beq_iff_eq (fun h7 => ?_) fun h7 => ?_
      · rw [h7] at hep
        exact hR _ _ ⟨fun _ => hep, fun _ => rfl⟩ H.tail.tail.tail
      -- is it known?
      refine loop2 (s1 := .one .bool) (s2 := .one (.int .i64)) (fun (kn : Bool) (z : Int) h5 => ∃ m : Nat, z = m ∧ m ≤ S1.length ∧ h5 = h ∧ (kn = true ↔ ∃ j, ∃ hj : j < S1.length, j < m ∧ S1[j] = E[i].to)) (fun _ (z : Int) _ => (S1.length - z).toNat)
        ⟨0, rfl, Nat.zero_le _, rfl, ⟨fun h => (by cases h), fun ⟨j, _, hj, _⟩ => absurd hj (Nat.not_lt_zero _)⟩⟩ fun _ (kn : Bool) (z : Int) h5 hI => ?_
      obtain ⟨m, rfl, hm, rfl, hkn⟩ := hI
      refine brD (fun hc3 => ?_) fun hc3 => ?_
      · have hm2 : m < S1.length := by omega
        refine ixAt H 2 rfl m rfl hm2 fun e4 he4 => ?_
        refine ldEl0 (E := eNum) H 2 rfl he4 hm2 S1[m] rfl ?_
        rw [w64 (by omega) (by omega)]
        refine brB (fun hk => ?_) fun hk => ?_
        · obtain ⟨j, hj, h8, h9⟩ := hkn.1 hk
          exact ⟨⟨m + 1, by omega, by omega, rfl, ⟨fun _ => ⟨j, hj, by omega, h9⟩, fun _ => rfl⟩⟩, by omega⟩
        · repeat (first | with_reducible refine nn ?_ | with_reducible refine let_ ?_ | with_reducible refine brSome ?_ | with_reducible refine brF ?_ | with_reducible refine brT ?_ | ((with_reducible apply ldAt H 0); exact rfl; exact rfl) | ((with_reducible apply ldAt0 H 0); exact rfl; exact rfl) | ((with_reducible apply stAt H 0); exact rfl; exact rfl; intro h H) | ((with_reducible apply stAt0 H 0); exact rfl; exact rfl; intro h H) | ((with_reducible refine ⟨?_, ?_⟩); first | ((with_reducible apply ldAt H 0); exact rfl; exact rfl; exact rfl) | ((with_reducible apply ldAt0 H 0); exact rfl; exact rfl; exact rfl)))
          refine let_ ?_
          refine ⟨⟨m + 1, by omega, by omega, rfl, ?_⟩, by omega⟩
          rw [beq_iff_eq]
          constructor
          · exact fun h8 => ⟨m, hm2, by omega, h8⟩
          · rintro ⟨j, hj, h8, h9⟩
            by_cases e : j < m
            · rw [hkn.2 ⟨j, hj, e, h9⟩] at hk; cases hk
            · obtain rfl : j = m := by omega
              exact h9
      have hkn2 : kn = true ↔ E[i].to ∈ S1 := by
        rw [hkn]
        constructor
        · rintro ⟨j, hj, _, h9⟩; rw [← h9]; exact List.getElem_mem hj
        · intro h8
          obtain ⟨j, hj, h9⟩ := List.getElem_of_mem h8
          exact ⟨j, hj, by omega, h9⟩
      refine join1 (s1 := .one .bool) (fun (q : Bool) h6 => (q = true ↔ (E[i].to ∉ S1 ∧ eld N E[i].to x)) ∧ At h0 h6 (.blk b4 30 [.int .i64 E[i].from_, .int .i64 E[i].to] :: .own sT1 1 (eNum.fl T1) :: .own sS1 1 (eNum.fl S1) :: (gl d ty sG sE N E ++ G))) (fun _ (q : Bool) h6 hJ => ?_) ?_
      rotate_left
      · refine brNot (fun hk => ?_) fun hk => ⟨⟨fun h => (by cases h), fun h => absurd (hkn2.1 hk) h.1⟩, H⟩
        refine brN (decide_eq_false (by omega)) ?_
        repeat (first | with_reducible refine nn ?_ | with_reducible refine let_ ?_ | with_reducible refine brSome ?_ | with_reducible refine brF ?_ | with_reducible refine brT ?_ | ((with_reducible apply ldAt H 0); exact rfl; exact rfl) | ((with_reducible apply ldAt0 H 0); exact rfl; exact rfl) | ((with_reducible apply stAt H 0); exact rfl; exact rfl; intro h H) | ((with_reducible apply stAt0 H 0); exact rfl; exact rfl; intro h H) | ((with_reducible refine ⟨?_, ?_⟩); first | ((with_reducible apply ldAt H 0); exact rfl; exact rfl; exact rfl) | ((with_reducible apply ldAt0 H 0); exact rfl; exact rfl; exact rfl)))
        have H : At h0 h5 (.blk b4 30 [.int .i64 E[i].from_, .int .i64 E[i].to] :: .own sT1 1 (eNum.fl T1) :: .own sS1 1 (eNum.fl S1) :: (gl d ty sG sE N E ++ G)) := H
        refine ref13_Elder_ok (G := _ :: _ :: _ :: G) (H.mv 3 3) he.uniq he.len hto hx fun h7 H => ?_
        refine ⟨?_, H.mv 3 3⟩
        rw [decide_eq_true_iff]
        exact ⟨fun h8 => ⟨fun h9 => (by rw [hkn2.2 h9] at hk; cases hk), h8⟩, fun h8 => h8.2⟩
      obtain ⟨hq, H⟩ := hJ
      refine brB (fun hqt => ?_) fun hqf => ?_
      · obtain ⟨hnew, hel⟩ := hq.1 hqt
        have w2 : WayI N x (S1 ++ [E[i].to]) (T1 ++ [E[i].to]) fun u => u = y := by
          refine ⟨fun u hu => ?_, fun u hu => ?_, fun u hu => ?_, ?_⟩
          · rcases List.mem_append.1 hu with hu | hu
            · exact w1.s u hu
            · rw [List.mem_singleton.1 hu]; exact ⟨hep, hel⟩
          · rcases List.mem_append.1 hu with hu | hu
            · exact (w1.t u hu).imp id fun h => List.mem_append_left _ h
            · exact .inr (List.mem_append_right _ hu)
          · have hu2 : (u = x ∨ u ∈ S1) ∨ u = E[i].to := by
              rcases hu with hu | hu
              · exact .inl (.inl hu)
              · rcases List.mem_append.1 hu with hu | hu
                · exact .inl (.inr hu)
                · exact .inr (List.mem_singleton.1 hu)
            rcases hu2 with hu2 | hu2
            · rcases w1.p u hu2 with h | h | h
              · exact .inl (List.mem_append_left _ h)
              · exact .inr (.inl fun t ht => ⟨(h t ht).1, fun h8 => List.mem_append_left _ ((h t ht).2 h8)⟩)
              · exact .inr (.inr h)
            · exact .inl (List.mem_append_right _ (List.mem_singleton.2 hu2))
          · refine List.nodup_append.2 ⟨w1.nd, (by simp), fun a ha b hb e => ?_⟩
            rw [List.mem_singleton.1 hb] at e
            exact hnew (e ▸ ha)
        have hl2 := w2.len he
        rw [List.length_append, List.length_singleton] at hl2
        repeat (first | with_reducible refine nn ?_ | with_reducible refine let_ ?_ | with_reducible refine brSome ?_ | with_reducible refine brF ?_ | with_reducible refine brT ?_ | ((with_reducible apply ldAt H 0); exact rfl; exact rfl) | ((with_reducible apply ldAt0 H 0); exact rfl; exact rfl) | ((with_reducible apply stAt H 0); exact rfl; exact rfl; intro h H) | ((with_reducible apply stAt0 H 0); exact rfl; exact rfl; intro h H) | ((with_reducible refine ⟨?_, ?_⟩); first | ((with_reducible apply ldAt H 0); exact rfl; exact rfl; exact rfl) | ((with_reducible apply ldAt0 H 0); exact rfl; exact rfl; exact rfl)))
        refine allocAt (cs := eNum.cells E[i].to) H fun h8 b5 H => ?_
        refine app1B (E := eNum) TNum H 3 rfl 0 rfl E[i].to rfl (by omega) (by omega) fun s3 h9 H => ?_
        repeat (first | with_reducible refine nn ?_ | with_reducible refine let_ ?_ | with_reducible refine brSome ?_ | with_reducible refine brF ?_ | with_reducible refine brT ?_ | ((with_reducible apply ldAt H 0); exact rfl; exact rfl) | ((with_reducible apply ldAt0 H 0); exact rfl; exact rfl) | ((with_reducible apply ldAt H 1); exact rfl; exact rfl) | ((with_reducible apply ldAt0 H 1); exact rfl; exact rfl) | ((with_reducible apply stAt H 0); exact rfl; exact rfl; intro h H) | ((with_reducible apply stAt0 H 0); exact rfl; exact rfl; intro h H) | ((with_reducible apply stAt H 1); exact rfl; exact rfl; intro h H) | ((with_reducible apply stAt0 H 1); exact rfl; exact rfl; intro h H) | ((with_reducible refine ⟨?_, ?_⟩); first | ((with_reducible apply ldAt H 0); exact rfl; exact rfl; exact rfl) | ((with_reducible apply ldAt0 H 0); exact rfl; exact rfl; exact rfl) | ((with_reducible apply ldAt H 1); exact rfl; exact rfl; exact rfl) | ((with_reducible apply ldAt0 H 1); exact rfl; exact rfl; exact rfl)))
        refine allocAt (cs := eNum.cells E[i].to) H fun h10 b6 H => ?_
        refine app1B (E := eNum) TNum H 3 rfl 0 rfl E[i].to rfl (by omega) (by omega) fun s4 h11 H => ?_
        refine ⟨⟨i + 1, S1 ++ [E[i].to], T1 ++ [E[i].to], by omega, by omega, w2, hy.imp id fun h => List.mem_append_left _ h, keepD (fun u hu => List.mem_append_left _ hu) fun _ => ⟨h7, fun _ => List.mem_append_right _ (List.mem_singleton.2 rfl)⟩, ?_, ?_, H.tail.tail.tail⟩, by omega⟩
        · simp only [List.length_append, List.length_singleton]; omega
        · simp only [List.length_append, List.length_singleton]; omega
      · refine ⟨⟨i + 1, S1, T1, by omega, by omega, w1, hy, keepD (fun _ h => h) fun _ => ⟨h7, fun h8 => ?_⟩, hms, hlT, H.tail⟩, by omega⟩
        exact Decidable.byContradiction fun h9 => by rw [hq.2 ⟨h9, h8⟩] at hqf; exact nomatch hqf
    · have hil : i = E.length := by omega
      subst hil
      have hpy : Proc N x S1 y := fun t ht => by
        obtain ⟨e, h6, h7, h8⟩ := (he.mem _ _).1 ht
        obtain ⟨j, hj, rfl⟩ := List.getElem_of_mem h6
        rw [← h8]
        exact hdone j hj hj h7
      refine ⟨⟨S1, T1, ⟨w1.s, w1.t, fun u hu => ?_, w1.nd⟩, hlT, H⟩, by omega⟩
      rcases w1.p u hu with h | h | h
      · exact .inl h
      · exact .inr (.inl h)
      · exact .inr (.inl (by rw [h]; exact hpy))
  · have hT0 : T = [] := List.length_eq_zero_iff.1 (by omega)
    subst hT0
    exact hR _ _ ⟨fun h => (by cases h), fun h => absurd h w.no⟩ H.tail.tail
set_option maxHeartbeats 1600000 in
theorem ref13_Nodes_ok {R : Sl → Heap → Prop} (H : At h0 h (gl d ty sG sE N E ++ G)) (hu : UniqN N) (hlen : N.length ≤ 64)
    (hR : ∀ r l h', SrtI l → (∀ x, x ∈ l ↔ hasN N x) → l.length ≤ 64 → At h0 h' (.own r 1 (eNum.fl l) :: (gl d ty sG sE N E ++ G)) → R r h') : C_ref13_Graph_Nodes (some ⟨d, 0, none⟩) h R := by
  refine A_ref13_Graph_Nodes ?_
  unfold S_ref13_Graph_Nodes
  have hsn := H.n 1 rfl
  repeat (first | with_reducible refine nn ?_ | with_reducible refine let_ ?_ | with_reducible refine brSome ?_ | with_reducible refine brF ?_ | with_reducible refine brT ?_ | ((with_reducible apply ldAt H 0); exact rfl; exact rfl) | ((with_reducible apply ldAt0 H 0); exact rfl; exact rfl) | ((with_reducible apply stAt H 0); exact rfl; exact rfl; intro h H) | ((with_reducible apply stAt0 H 0); exact rfl; exact rfl; intro h H) | ((with_reducible refine ⟨?_, ?_⟩); first | ((with_reducible apply ldAt H 0); exact rfl; exact rfl; exact rfl) | ((with_reducible apply ldAt0 H 0); exact rfl; exact rfl; exact rfl)))
  refine loop2 (s1 := .one .sl) (s2 := .one (.int .i64)) (fun (out : Sl) (y : Int) h1 => ∃ (j : Nat) (ol : List Int), y = j ∧ j ≤ N.length ∧ SrtI ol ∧ (∀ x, x ∈ ol ↔ ∃ i, ∃ hi : i < N.length, i < j ∧ N[i].id = x) ∧ ol.length ≤ j ∧ At h0 h1 (.own out 1 (eNum.fl ol) :: (gl d ty sG sE N E ++ G))) (fun _ (y : Int) _ => (N.length - y).toNat)
    ⟨0, [], rfl, Nat.zero_le _, List.Pairwise.nil, (fun x => ⟨fun h => (by cases h), fun ⟨i, _, hi, _⟩ => absurd hi (Nat.not_lt_zero _)⟩), Nat.le_refl _, H.nil 1⟩ fun _ (out : Sl) (y : Int) h1 hI => ?_
  obtain ⟨j, ol, rfl, hj, hs, hm, hl, H⟩ := hI
  have hon := H.n 0 rfl
  have hoc := (H.own 0 rfl).2.1
  refine brD (fun hc => ?_) fun hc => ?_
  · have hj2 : j < N.length := by omega
    refine ixAt H 2 rfl j rfl hj2 fun e he => ?_
    repeat (first | with_reducible refine nn ?_ | with_reducible refine let_ ?_ | with_reducible refine brSome ?_ | with_reducible refine brF ?_ | with_reducible refine brT ?_ | ((with_reducible apply ldAt H 0); exact rfl; exact rfl) | ((with_reducible apply ldAt0 H 0); exact rfl; exact rfl) | ((with_reducible apply ldAt H 1); exact rfl; exact rfl) | ((with_reducible apply ldAt0 H 1); exact rfl; exact rfl) | ((with_reducible apply ldAt H 2); exact rfl; exact rfl) | ((with_reducible apply ldAt0 H 2); exact rfl; exact rfl) | ((with_reducible apply ldEl H 0); exact rfl; assumption; (case hk => assumption); exact rfl) | ((with_reducible apply ldEl0 H 0); exact rfl; assumption; (case hk => assumption); exact rfl) | ((with_reducible apply ldElS H 0); exact rfl; assumption; (case hk => assumption); exact rfl) | ((with_reducible apply ldElS0 H 0); exact rfl; assumption; (case hk => assumption); exact rfl) | ((with_reducible apply ldEl H 1); exact rfl; assumption; (case hk => assumption); exact rfl) | ((with_reducible apply ldEl0 H 1); exact rfl; assumption; (case hk => assumption); exact rfl) | ((with_reducible apply ldElS H 1); exact rfl; assumption; (case hk => assumption); exact rfl) | ((with_reducible apply ldElS0 H 1); exact rfl; assumption; (case hk => assumption); exact rfl) | ((with_reducible apply ldEl H 2); exact rfl; assumption; (case hk => assumption); exact rfl) | ((with_reducible apply ldEl0 H 2); exact rfl; assumption; (case hk => assumption); exact rfl) | ((with_reducible apply ldElS H 2); exact rfl; assumption; (case hk => assumption); exact rfl) | ((with_reducible apply ldElS0 H 2); exact rfl; assumption; (case hk => assumption); exact rfl) | ((with_reducible apply stAt H 0); exact rfl; exact rfl; intro h H) | ((with_reducible apply stAt0 H 0); exact rfl; exact rfl; intro h H) | ((with_reducible apply stAt H 1); exact rfl; exact rfl; intro h H) | ((with_reducible apply stAt0 H 1); exact rfl; exact rfl; intro h H) | ((with_reducible apply stAt H 2); exact rfl; exact rfl; intro h H) | ((with_reducible apply stAt0 H 2); exact rfl; exact rfl; intro h H) | ((with_reducible apply stElS (E := eGN) ⟨_, _⟩ H 0); exact rfl; assumption; (case hk => assumption); exact rfl; (first | exact rfl | (dsimp only [eGN, List.set_cons_succ, List.set_cons_zero] <;> exact rfl)); intro h H) | ((with_reducible apply stElS0 (E := eGN) ⟨_, _⟩ H 0); exact rfl; assumption; (case hk => assumption); (first | exact rfl | (dsimp only [eGN, List.set_cons_succ, List.set_cons_zero] <;> exact rfl)); intro h H) | ((with_reducible apply stEl (E := eGN) ⟨_, _⟩ H 0); exact rfl; assumption; (case hk => assumption); exact rfl; (first | exact rfl | (dsimp only [eGN, List.set_cons_succ, List.set_cons_zero] <;> exact rfl)); intro h H) | ((with_reducible apply stEl0 (E := eGN) ⟨_, _⟩ H 0); exact rfl; assumption; (case hk => assumption); (first | exact rfl | (dsimp only [eGN, List.set_cons_succ, List.set_cons_zero] <;> exact rfl)); intro h H) | ((with_reducible apply stElS (E := eGN) ⟨_, _⟩ H 1); exact rfl; assumption; (case hk => assumption); exact rfl; (first | exact rfl | (dsimp only [eGN, List.set_cons_succ, List.set_cons_zero] <;> exact rfl)); intro h H) | ((with_reducible apply stElS0 (E := eGN) ⟨_, _⟩ H 1); exact rfl; assumption; (case hk => assumption); (first | exact rfl | (dsimp only [eGN, List.set_cons_succ, List.set_cons_zero] <;> exact rfl)); intro h H) | ((with_reducible apply stEl (E := eGN) ⟨_, _⟩ H 1); exact rfl; assumption; (case hk => assumption); exact rfl; (first | exact rfl | (dsimp only [eGN, List.set_cons_succ, List.set_cons_zero] <;> exact rfl)); intro h H) | ((with_reducible apply stEl0 (E := eGN) ⟨_, _⟩ H 1); exact rfl; assumption; (case hk => assumption); (first | exact rfl | (dsimp only [eGN, List.set_cons_succ, List.set_cons_zero] <;> exact rfl)); intro h H) | ((with_reducible apply stElS (E := eGN) ⟨_, _⟩ H 2); exact rfl; assumption; (case hk => assumption); exact rfl; (first | exact rfl | (dsimp only [eGN, List.set_cons_succ, List.set_cons_zero] <;> exact rfl)); intro h H) | ((with_reducible apply stElS0 (E := eGN) ⟨_, _⟩ H 2); exact rfl; assumption; (case hk => assumption); (first | exact rfl | (dsimp only [eGN, List.set_cons_succ, List.set_cons_zero] <;> exact rfl)); intro h H) | ((with_reducible apply stEl (E := eGN) ⟨_, _⟩ H 2); exact rfl; assumption; (case hk => assumption); exact rfl; (first | exact rfl | (dsimp only [eGN, List.set_cons_succ, List.set_cons_zero] <;> exact rfl)); intro h H) | ((with_reducible apply stEl0 (E := eGN) ⟨_, _⟩ H 2); exact rfl; assumption; (case hk => assumption); (first | exact rfl | (dsimp only [eGN, List.set_cons_succ, List.set_cons_zero] <;> exact rfl)); intro h H) | ((with_reducible apply allocAt H); intro h b H) | ((with_reducible refine ⟨?_, ?_⟩); first | ((with_reducible apply ldAt H 0); exact rfl; exact rfl; exact rfl) | ((with_reducible apply ldAt0 H 0); exact rfl; exact rfl; exact rfl) | ((with_reducible apply ldAt H 1); exact rfl; exact rfl; exact rfl) | ((with_reducible apply ldAt0 H 1); exact rfl; exact rfl; exact rfl) | ((with_reducible apply ldAt H 2); exact rfl; exact rfl; exact rfl) | ((with_reducible apply ldAt0 H 2); exact rfl; exact rfl; exact rfl) | ((with_reducible apply ldEl H 0); exact rfl; assumption; (case hk => assumption); exact rfl; exact rfl) | ((with_reducible apply ldEl0 H 0); exact rfl; assumption; (case hk => assumption); exact rfl; exact rfl) | ((with_reducible apply ldElS H 0); exact rfl; assumption; (case hk => assumption); exact rfl; exact rfl) | ((with_reducible apply ldElS0 H 0); exact rfl; assumption; (case hk => assumption); exact rfl; exact rfl) | ((with_reducible apply ldEl H 1); exact rfl; assumption; (case hk => assumption); exact rfl; exact rfl) | ((with_reducible apply ldEl0 H 1); exact rfl; assumption; (case hk => assumption); exact rfl; exact rfl) | ((with_reducible apply ldElS H 1); exact rfl; assumption; (case hk => assumption); exact rfl; exact rfl) | ((with_reducible apply ldElS0 H 1); exact rfl; assumption; (case hk => assumption); exact rfl; exact rfl) | ((with_reducible apply ldEl H 2); exact rfl; assumption; (case hk => assumption); exact rfl; exact rfl) | ((with_reducible apply ldEl0 H 2); exact rfl; assumption; (case hk => assumption); exact rfl; exact rfl) | ((with_reducible apply ldElS H 2); exact rfl; assumption; (case hk => assumption); exact rfl; exact rfl) | ((with_reducible apply ldElS0 H 2); exact rfl; assumption; (case hk => assumption); exact rfl; exact rfl)))
    rename Nat => b1
    have hnm : N[j].id ∉ ol := fun h => by
      obtain ⟨i, hi, hij, e⟩ := (hm _).1 h
      exact List.pairwise_iff_getElem.1 hu i j hi hj2 hij e
    have hle := loI_le hs N[j].id
    refine join1 (s1 := .one (.int .i64)) (fun (y : Int) h4 => y = (loI ol N[j].id : Nat) ∧ h4 = h) (fun _ (y : Int) h4 hJ => ?_) ?_
    rotate_left
    · refine loop1 (s1 := .one (.int .i64)) (fun (y : Int) h4 => ∃ i : Nat, y = i ∧ i ≤ ol.length ∧ h4 = h ∧ ∀ m, (hm : m < ol.length) → m < i → ol[m] < N[j].id) (fun (y : Int) _ => (ol.length - y).toNat)
        ⟨0, rfl, Nat.zero_le _, rfl, fun m _ hm => absurd hm (Nat.not_lt_zero _)⟩ fun _ (y : Int) h4 hI => ?_
      obtain ⟨i, rfl, hi, rfl, hlo⟩ := hI
      have fin : (∀ m, (hm : m < ol.length) → i ≤ m → N[j].id ≤ ol[m]) → ((i : Int) = (loI ol N[j].id : Nat) ∧ h4 = h4) := fun hhi => ⟨by rw [CutI.uniq ⟨hi, hlo, hhi⟩ (loI_cut hs N[j].id)], rfl⟩
      refine brD (fun hc2 => ?_) fun hc2 => fin fun m hm hmi => by omega
      have hi2 : i < ol.length := by omega
      refine ixAt H 1 rfl i rfl hi2 fun e he => ?_
      refine ldEl0 (E := eNum) H 1 rfl he hi2 ol[i] rfl ?_
      repeat (first | with_reducible refine nn ?_ | with_reducible refine let_ ?_ | with_reducible refine brSome ?_ | with_reducible refine brF ?_ | with_reducible refine brT ?_ | ((with_reducible apply ldAt H 0); exact rfl; exact rfl) | ((with_reducible apply ldAt0 H 0); exact rfl; exact rfl) | ((with_reducible apply stAt H 0); exact rfl; exact rfl; intro h H) | ((with_reducible apply stAt0 H 0); exact rfl; exact rfl; intro h H) | ((with_reducible refine ⟨?_, ?_⟩); first | ((with_reducible apply ldAt H 0); exact rfl; exact rfl; exact rfl) | ((with_reducible apply ldAt0 H 0); exact rfl; exact rfl; exact rfl)))
      refine brD (fun hlt => let_ ?_) fun hge => fin fun m hm hmi => ?_
      · rw [w64 (by omega) (by omega)]
        refine ⟨⟨i + 1, by omega, by omega, rfl, fun m hm hmi => ?_⟩, by omega⟩
        by_cases e : m < i
        · exact hlo m hm e
        · obtain rfl : m = i := by omega
          exact hlt
      · by_cases e : m = i
        · subst e; omega
        · have := srtI_lt hs (show i < m by omega) hm
          omega
    obtain ⟨rfl, rfl⟩ := hJ
    refine cut_raw TNum 0 (loI ol N[j].id) out.c lo0 (hii rfl) (.inl ⟨rfl, rfl⟩) (Nat.zero_le _) (by omega) (Nat.le_refl _) ?_
    repeat (first | with_reducible refine nn ?_ | with_reducible refine let_ ?_ | with_reducible refine brSome ?_ | with_reducible refine brF ?_ | with_reducible refine brT ?_ | ((with_reducible apply ldAt H 0); exact rfl; exact rfl) | ((with_reducible apply ldAt0 H 0); exact rfl; exact rfl) | ((with_reducible apply stAt H 0); exact rfl; exact rfl; intro h H) | ((with_reducible apply stAt0 H 0); exact rfl; exact rfl; intro h H) | ((with_reducible refine ⟨?_, ?_⟩); first | ((with_reducible apply ldAt H 0); exact rfl; exact rfl; exact rfl) | ((with_reducible apply ldAt0 H 0); exact rfl; exact rfl; exact rfl)))
    refine cut_raw TNum (loI ol N[j].id) out.n out.c (loi rfl) (hi0 _) (.inl ⟨rfl, rfl⟩) (by omega) hoc (Nat.le_refl _) ?_
    rw [w64 (by omega) (by omega)]
    have nil_ : ∀ {h' : Heap} {M : List Res} {c : Nat} {tc : TypeId}, At h0 h' (.blk c tc [] :: M) → At h0 h' (.own ⟨some ⟨c, 0, none⟩, 0, 0⟩ 1 (eNum.fl []) :: M) := fun {h' M c tc} H => H.as_ 0 rfl (.own ⟨some ⟨c, 0, none⟩, 0, 0⟩ 1 (eNum.fl [])) (Own.full (H.get 0 rfl : Blk h' c _ []) (sz := 1) (n := 0) rfl (by decide)) (fun g hg => by have hg : some c = some g := hg; injection hg with hg; exact hg.symm)
    have rdA : ∀ {h' : Heap} {M : List Res} (j_ : Nat), At h0 h' M → M[j_]? = some (.own out 1 (eNum.fl ol)) → RdS h' 1 (cutSl out 1 0 (loI ol N[j].id) out.c) (eNum.fl (ol.take (loI ol N[j].id))) := fun j_ H hj => by
      have := rd_cut TNum (H.rdo j_ hj) 0 (loI ol N[j].id) out.c (Nat.zero_le _) (by omega) (by omega)
      rwa [Nat.zero_mul, List.drop_zero, Nat.sub_zero, eNum.fl_take] at this
    have rdB : ∀ {h' : Heap} {M : List Res} (j_ : Nat), At h0 h' M → M[j_]? = some (.own out 1 (eNum.fl ol)) → RdS h' 1 (cutSl out 1 (loI ol N[j].id) out.n out.c) (eNum.fl (ol.drop (loI ol N[j].id))) := fun j_ H hj => by
      have := rd_cut TNum (H.rdo j_ hj) (loI ol N[j].id) out.n out.c (by omega) (Nat.le_refl _) (H.own j_ hj).2.1
      rwa [eNum.fl_drop, eNum.fl_take, List.take_of_length_le (by rw [List.length_drop]; omega)] at this
    have hl1 : (ol.take (loI ol N[j].id)).length ≤ ol.length := by rw [List.length_take]; exact Nat.min_le_right ..
    have hl2 : (ol.drop (loI ol N[j].id)).length ≤ ol.length := by rw [List.length_drop]; omega
    have fin : ∀ (s_ : Sl) (h' : Heap), At h0 h' (.own s_ 1 (eNum.fl (ol.take (loI ol N[j].id) ++ [N[j].id] ++ ol.drop (loI ol N[j].id))) :: .blk b1 162 [.int .i64 N[j].id, .int .i64 N[j].stamp] :: .own out 1 (eNum.fl ol) :: (gl d ty sG sE N E ++ G)) →
        (∃ (j_1 : Nat) (ol : List Int), (j : Int) + 1 = j_1 ∧ j_1 ≤ N.length ∧ SrtI ol ∧ (∀ x, x ∈ ol ↔ ∃ i, ∃ hi : i < N.length, i < j_1 ∧ N[i].id = x) ∧ ol.length ≤ j_1 ∧ At h0 h' (.own s_ 1 (eNum.fl ol) :: (gl d ty sG sE N E ++ G))) ∧ ((N.length : Int) - ((j : Int) + 1)).toNat < ((N.length : Int) - (j : Int)).toNat := fun s_ h' H => by
      have e : ol.take (loI ol N[j].id) ++ [N[j].id] ++ ol.drop (loI ol N[j].id) = putI ol N[j].id := by unfold putI; rw [List.append_assoc]; rfl
      rw [e] at H
      refine ⟨⟨j + 1, _, by omega, by omega, putI_srt hs hnm, fun x => ?_, by rw [putI_len _ _ hs]; omega, (H.del 1).del 1⟩, by omega⟩
      rw [mem_putI, hm]
      constructor
      · rintro (rfl | ⟨i, hi, h5, h6⟩)
        · exact ⟨j, hj2, by omega, rfl⟩
        · exact ⟨i, hi, by omega, h6⟩
      · rintro ⟨i, hi, h5, h6⟩
        by_cases e : i < j
        · exact .inr ⟨i, hi, e, h6⟩
        · obtain rfl : i = j := by omega
          exact .inl h6.symm
    refine ⟨?_, ?_⟩
    · refine allocAt (cs := []) H fun h c0_ H => ?_
      repeat (first | with_reducible refine nn ?_ | with_reducible refine let_ ?_ | with_reducible refine brSome ?_ | with_reducible refine brF ?_ | with_reducible refine brT ?_ | ((with_reducible apply ldAt H 1); exact rfl; exact rfl) | ((with_reducible apply ldAt0 H 1); exact rfl; exact rfl) | ((with_reducible apply stAt H 1); exact rfl; exact rfl; intro h H) | ((with_reducible apply stAt0 H 1); exact rfl; exact rfl; intro h H) | ((with_reducible refine ⟨?_, ?_⟩); first | ((with_reducible apply ldAt H 1); exact rfl; exact rfl; exact rfl) | ((with_reducible apply ldAt0 H 1); exact rfl; exact rfl; exact rfl)))
      refine ⟨?_, ?_⟩
      · have H := nil_ H
        refine appAt (ys := ol.take (loI ol N[j].id)) TNum H 0 rfl (rdA 2 H rfl) (by simp; omega) (by simp; omega) fun s_ h H => ?_
        rw [List.nil_append] at H
        repeat (first | with_reducible refine nn ?_ | with_reducible refine let_ ?_ | with_reducible refine brSome ?_ | with_reducible refine brF ?_ | with_reducible refine brT ?_ | ((with_reducible apply ldAt H 1); exact rfl; exact rfl) | ((with_reducible apply ldAt0 H 1); exact rfl; exact rfl) | ((with_reducible apply stAt H 1); exact rfl; exact rfl; intro h H) | ((with_reducible apply stAt0 H 1); exact rfl; exact rfl; intro h H) | ((with_reducible refine ⟨?_, ?_⟩); first | ((with_reducible apply ldAt H 1); exact rfl; exact rfl; exact rfl) | ((with_reducible apply ldAt0 H 1); exact rfl; exact rfl; exact rfl)))
        refine allocAt (cs := eNum.cells N[j].id) H fun h c_ H => ?_
        repeat (first | with_reducible refine nn ?_ | with_reducible refine let_ ?_ | with_reducible refine brSome ?_ | with_reducible refine brF ?_ | with_reducible refine brT ?_ | ((with_reducible apply ldAt H 2); exact rfl; exact rfl) | ((with_reducible apply ldAt0 H 2); exact rfl; exact rfl) | ((with_reducible apply stAt H 2); exact rfl; exact rfl; intro h H) | ((with_reducible apply stAt0 H 2); exact rfl; exact rfl; intro h H) | ((with_reducible refine ⟨?_, ?_⟩); first | ((with_reducible apply ldAt H 2); exact rfl; exact rfl; exact rfl) | ((with_reducible apply ldAt0 H 2); exact rfl; exact rfl; exact rfl)))
        refine app1B (E := eNum) TNum H 1 rfl 0 rfl N[j].id rfl (by simp; omega) (by simp; omega) fun s_ h H => ?_
        repeat (first | with_reducible refine nn ?_ | with_reducible refine let_ ?_ | with_reducible refine brSome ?_ | with_reducible refine brF ?_ | with_reducible refine brT ?_ | ((with_reducible apply ldAt H 2); exact rfl; exact rfl) | ((with_reducible apply ldAt0 H 2); exact rfl; exact rfl) | ((with_reducible apply stAt H 2); exact rfl; exact rfl; intro h H) | ((with_reducible apply stAt0 H 2); exact rfl; exact rfl; intro h H) | ((with_reducible refine ⟨?_, ?_⟩); first | ((with_reducible apply ldAt H 2); exact rfl; exact rfl; exact rfl) | ((with_reducible apply ldAt0 H 2); exact rfl; exact rfl; exact rfl)))
        refine appAt (ys := ol.drop (loI ol N[j].id)) TNum H 1 rfl (rdB 3 H rfl) (by simp; omega) (by simp; omega) fun s_ h H => ?_
        exact fin _ _ (H.tail)
      · refine allocAt (cs := eNum.cells N[j].id) H fun h c_ H => ?_
        repeat (first | with_reducible refine nn ?_ | with_reducible refine let_ ?_ | with_reducible refine brSome ?_ | with_reducible refine brF ?_ | with_reducible refine brT ?_ | ((with_reducible apply ldAt H 2); exact rfl; exact rfl) | ((with_reducible apply ldAt0 H 2); exact rfl; exact rfl) | ((with_reducible apply stAt H 2); exact rfl; exact rfl; intro h H) | ((with_reducible apply stAt0 H 2); exact rfl; exact rfl; intro h H) | ((with_reducible refine ⟨?_, ?_⟩); first | ((with_reducible apply ldAt H 2); exact rfl; exact rfl; exact rfl) | ((with_reducible apply ldAt0 H 2); exact rfl; exact rfl; exact rfl)))
        have H := nil_ (H.mv 1 1)
        refine appAt (ys := ol.take (loI ol N[j].id)) TNum H 0 rfl (rdA 3 H rfl) (by simp; omega) (by simp; omega) fun s_ h H => ?_
        rw [List.nil_append] at H
        repeat (first | with_reducible refine nn ?_ | with_reducible refine let_ ?_ | with_reducible refine brSome ?_ | with_reducible refine brF ?_ | with_reducible refine brT ?_ | ((with_reducible apply ldAt H 2); exact rfl; exact rfl) | ((with_reducible apply ldAt0 H 2); exact rfl; exact rfl) | ((with_reducible apply stAt H 2); exact rfl; exact rfl; intro h H) | ((with_reducible apply stAt0 H 2); exact rfl; exact rfl; intro h H) | ((with_reducible refine ⟨?_, ?_⟩); first | ((with_reducible apply ldAt H 2); exact rfl; exact rfl; exact rfl) | ((with_reducible apply ldAt0 H 2); exact rfl; exact rfl; exact rfl)))
        refine app1B (E := eNum) TNum H 0 rfl 1 rfl N[j].id rfl (by simp; omega) (by simp; omega) fun s_ h H => ?_
        repeat (first | with_reducible refine nn ?_ | with_reducible refine let_ ?_ | with_reducible refine brSome ?_ | with_reducible refine brF ?_ | with_reducible refine brT ?_ | ((with_reducible apply ldAt H 2); exact rfl; exact rfl) | ((with_reducible apply ldAt0 H 2); exact rfl; exact rfl) | ((with_reducible apply stAt H 2); exact rfl; exact rfl; intro h H) | ((with_reducible apply stAt0 H 2); exact rfl; exact rfl; intro h H) | ((with_reducible refine ⟨?_, ?_⟩); first | ((with_reducible apply ldAt H 2); exact rfl; exact rfl; exact rfl) | ((with_reducible apply ldAt0 H 2); exact rfl; exact rfl; exact rfl)))
        refine appAt (ys := ol.drop (loI ol N[j].id)) TNum H 0 rfl (rdB 3 H rfl) (by simp; omega) (by simp; omega) fun s_ h H => ?_
        exact fin _ _ (H.del 1)
    · refine allocAt (cs := eNum.cells N[j].id) H fun h c_ H => ?_
      repeat (first | with_reducible refine nn ?_ | with_reducible refine let_ ?_ | with_reducible refine brSome ?_ | with_reducible refine brF ?_ | with_reducible refine brT ?_ | ((with_reducible apply ldAt H 1); exact rfl; exact rfl) | ((with_reducible apply ldAt0 H 1); exact rfl; exact rfl) | ((with_reducible apply stAt H 1); exact rfl; exact rfl; intro h H) | ((with_reducible apply stAt0 H 1); exact rfl; exact rfl; intro h H) | ((with_reducible refine ⟨?_, ?_⟩); first | ((with_reducible apply ldAt H 1); exact rfl; exact rfl; exact rfl) | ((with_reducible apply ldAt0 H 1); exact rfl; exact rfl; exact rfl)))
      refine allocAt (cs := []) H fun h c0_ H => ?_
      repeat (first | with_reducible refine nn ?_ | with_reducible refine let_ ?_ | with_reducible refine brSome ?_ | with_reducible refine brF ?_ | with_reducible refine brT ?_ | ((with_reducible apply ldAt H 2); exact rfl; exact rfl) | ((with_reducible apply ldAt0 H 2); exact rfl; exact rfl) | ((with_reducible apply stAt H 2); exact rfl; exact rfl; intro h H) | ((with_reducible apply stAt0 H 2); exact rfl; exact rfl; intro h H) | ((with_reducible refine ⟨?_, ?_⟩); first | ((with_reducible apply ldAt H 2); exact rfl; exact rfl; exact rfl) | ((with_reducible apply ldAt0 H 2); exact rfl; exact rfl; exact rfl)))
      have H := nil_ H
      refine appAt (ys := ol.take (loI ol N[j].id)) TNum H 0 rfl (rdA 3 H rfl) (by simp; omega) (by simp; omega) fun s_ h H => ?_
      rw [List.nil_append] at H
      repeat (first | with_reducible refine nn ?_ | with_reducible refine let_ ?_ | with_reducible refine brSome ?_ | with_reducible refine brF ?_ | with_reducible refine brT ?_ | ((with_reducible apply ldAt H 2); exact rfl; exact rfl) | ((with_reducible apply ldAt0 H 2); exact rfl; exact rfl) | ((with_reducible apply stAt H 2); exact rfl; exact rfl; intro h H) | ((with_reducible apply stAt0 H 2); exact rfl; exact rfl; intro h H) | ((with_reducible refine ⟨?_, ?_⟩); first | ((with_reducible apply ldAt H 2); exact rfl; exact rfl; exact rfl) | ((with_reducible apply ldAt0 H 2); exact rfl; exact rfl; exact rfl)))
      refine app1B (E := eNum) TNum H 0 rfl 1 rfl N[j].id rfl (by simp; omega) (by simp; omega) fun s_ h H => ?_
      repeat (first | with_reducible refine nn ?_ | with_reducible refine let_ ?_ | with_reducible refine brSome ?_ | with_reducible refine brF ?_ | with_reducible refine brT ?_ | ((with_reducible apply ldAt H 2); exact rfl; exact rfl) | ((with_reducible apply ldAt0 H 2); exact rfl; exact rfl) | ((with_reducible apply stAt H 2); exact rfl; exact rfl; intro h H) | ((with_reducible apply stAt0 H 2); exact rfl; exact rfl; intro h H) | ((with_reducible refine ⟨?_, ?_⟩); first | ((with_reducible apply ldAt H 2); exact rfl; exact rfl; exact rfl) | ((with_reducible apply ldAt0 H 2); exact rfl; exact rfl; exact rfl)))
      refine appAt (ys := ol.drop (loI ol N[j].id)) TNum H 0 rfl (rdB 3 H rfl) (by simp; omega) (by simp; omega) fun s_ h H => ?_
      exact fin _ _ (H.del 1)
  · have hjl : j = N.length := by omega
    subst hjl
    refine hR _ _ _ hs (fun x => ?_) (by omega) H
    rw [hm]
    constructor
    · rintro ⟨i, hi, _, e⟩; exact ⟨_, List.getElem_mem hi, e⟩
    · rintro ⟨n, hn, e⟩
      obtain ⟨i, hi, rfl⟩ := List.getElem_of_mem hn
      exact ⟨i, hi, hi, e⟩
theorem ref13_Victims_ok {R : Sl → Heap → Prop} (H : At h0 h (gl d ty sG sE N E ++ G)) (he : EdgOk N E) (h0x : ∀ x, hasN N x → 0 ≤ x) (hEl : E.length ≤ 100000)
    (hR : ∀ r l h', SrtI l → (∀ x, x ∈ l ↔ hasN N x ∧ EP N x x) → l.length ≤ 64 → At h0 h' (.own r 1 (eNum.fl l) :: (gl d ty sG sE N E ++ G)) → R r h') : C_ref13_Graph_Victims (some ⟨d, 0, none⟩) h R := by
  refine A_ref13_Graph_Victims ?_
  unfold S_ref13_Graph_Victims
  refine ref13_Nodes_ok H he.uniq he.len fun r l h1 hs hm hl H => ?_
  have hrn := H.n 0 rfl
  refine loop2 (s1 := .one .sl) (s2 := .one (.int .i64)) (fun (out : Sl) (y : Int) h2 => ∃ (j : Nat) (ol : List Int), y = j ∧ j ≤ l.length ∧ SrtI ol ∧ (∀ x, x ∈ ol ↔ EP N x x ∧ ∃ i, ∃ hi : i < l.length, i < j ∧ l[i] = x) ∧ ol.length ≤ j ∧ At h0 h2 (.own out 1 (eNum.fl ol) :: .own r 1 (eNum.fl l) :: (gl d ty sG sE N E ++ G))) (fun _ (y : Int) _ => (l.length - y).toNat)
    ⟨0, [], rfl, Nat.zero_le _, List.Pairwise.nil, (fun x => ⟨fun h => (by cases h), fun ⟨_, i, _, hi, _⟩ => absurd hi (Nat.not_lt_zero _)⟩), Nat.le_refl _, H.nil 1⟩ fun _ (out : Sl) (y : Int) h2 hI => ?_
  obtain ⟨j, ol, rfl, hj, hso, hmo, hlo, H⟩ := hI
  refine brD (fun hc => ?_) fun hc => ?_
  · have hj2 : j < l.length := by omega
    refine ixAt H 1 rfl j rfl hj2 fun e he1 => ?_
    refine ldEl0 (E := eNum) H 1 rfl he1 hj2 l[j] rfl ?_
    have hx := (hm l[j]).1 (List.getElem_mem hj2)
    have H : At h0 h2 (.own out 1 (eNum.fl ol) :: .own r 1 (eNum.fl l) :: (gl d ty sG sE N E ++ G)) := H
    refine ref13_way_ok (G := _ :: _ :: G) (H.mv 2 3) he hx (h0x _ hx) hEl fun q h3 hq H => ?_
    have H := H.mv 3 2
    rw [w64 (by omega) (by omega)]
    refine brB (fun hqt => ?_) fun hqf => ?_
    · have hep := hq.1 hqt
      refine allocAt (cs := eNum.cells l[j]) H fun h4 b H => ?_
      refine app1B (E := eNum) TNum H 1 rfl 0 rfl l[j] rfl (by omega) (by omega) fun s3 h5 H => ?_
      refine ⟨⟨j + 1, ol ++ [l[j]], by omega, by omega, ?_, fun x => ?_, by rw [List.length_append, List.length_singleton]; omega, H.tail⟩, by omega⟩
      · refine List.pairwise_append.2 ⟨hso, List.pairwise_singleton .., fun a ha b hb => ?_⟩
        rw [List.mem_singleton.1 hb]
        obtain ⟨_, i, hi, hij, rfl⟩ := (hmo a).1 ha
        exact srtI_lt hs hij hj2
      · rw [List.mem_append, hmo, List.mem_singleton]
        constructor
        · rintro (⟨h6, i, hi, h7, h8⟩ | rfl)
          · exact ⟨h6, i, hi, by omega, h8⟩
          · exact ⟨hep, j, hj2, by omega, rfl⟩
        · rintro ⟨h6, i, hi, h7, h8⟩
          by_cases e : i < j
          · exact .inl ⟨h6, i, hi, e, h8⟩
          · obtain rfl : i = j := by omega
            exact .inr h8.symm
    · refine ⟨⟨j + 1, ol, by omega, by omega, hso, fun x => ?_, by omega, H⟩, by omega⟩
      rw [hmo]
      constructor
      · rintro ⟨h6, i, hi, h7, h8⟩; exact ⟨h6, i, hi, by omega, h8⟩
      · rintro ⟨h6, i, hi, h7, h8⟩
        by_cases e : i < j
        · exact ⟨h6, i, hi, e, h8⟩
        · obtain rfl : i = j := by omega
          rw [← h8] at h6
          rw [hq.2 h6] at hqf
          cases hqf
  · have hjl : j = l.length := by omega
    subst hjl
    refine hR _ _ _ hso (fun x => ?_) (by omega) (H.del 1)
    rw [hmo, ← hm]
    constructor
    · rintro ⟨h6, i, hi, _, rfl⟩; exact ⟨List.getElem_mem hi, h6⟩
    · rintro ⟨h6, h7⟩
      obtain ⟨i, hi, e⟩ := List.getElem_of_mem h6
      exact ⟨h7, i, hi, hi, e⟩
theorem law14_in_ok {l : Sl} {xs : List Int} {x : Int} {R : Bool → Heap → Prop} (A : RdS h 1 l (eNum.fl xs)) (hlen : xs.length ≤ 10000000) (hx : x ∈ xs) (hR : R true h) : C_law14_in l x h R := by
  refine A_law14_in ?_
  unfold S_law14_in
  have hn := rdn A
  refine loop1 (s1 := .one (.int .i64)) (fun (y : Int) h1 => ∃ j : Nat, y = j ∧ j ≤ xs.length ∧ h1 = h ∧ ∀ i, (hi : i < xs.length) → i < j → xs[i] ≠ x) (fun (y : Int) _ => (xs.length - y).toNat)
    ⟨0, rfl, Nat.zero_le _, rfl, fun i _ hi => absurd hi (Nat.not_lt_zero _)⟩ fun _ (y : Int) h1 hI => ?_
  obtain ⟨j, rfl, hj, rfl, hno⟩ := hI
  refine brD (fun hc => ?_) fun hc => ?_
  · have hj2 : j < xs.length := by omega
    refine ixR A j rfl hj2 fun e he => ?_
    refine ldR0 A he hj2 xs[j] rfl ?_
    refine br beq_iff_eq (fun _ => hR) fun h2 => ?_
    rw [w64 (by omega) (by omega)]
    refine ⟨⟨j + 1, by omega, by omega, rfl, fun i hi hij => ?_⟩, by omega⟩
    by_cases e : i < j
    · exact hno i hi e
    · obtain rfl : i = j := by omega
      exact fun h3 => h2 h3.symm
  · obtain ⟨i, hi, e⟩ := List.getElem_of_mem hx
    exact absurd e (hno i hi (by omega))
end
end Go.Proofs.Ytmpekddpehhdnaa
