/-
  Layer 14 (chase): the document's rows, and the contracts of their calls. (Printed by gen/mkkr.py out of gen/XKr.src.)
-/
import Derived.Test.YtmpekddpehhdnaaKc
import Derived.Test.YtmpekddpehhdnaaSKR
namespace Go.Proofs.Ytmpekddpehhdnaa
open Go

structure CE where
  from_ : Int
  to : Int
structure CS where
  start : Int
  at_ : Int
  round : Int
def eCE : Enc CE 2 := ⟨fun a => [.int .i64 a.from_, .int .i64 a.to], fun _ => rfl, by decide, fun x u hu => by
  simp only [List.mem_cons, List.not_mem_nil, or_false] at hu
  rcases hu with rfl | rfl <;> rfl⟩
def eCS : Enc CS 3 := ⟨fun a => [.int .i64 a.start, .int .i64 a.at_, .int .i64 a.round], fun _ => rfl, by decide, fun x u hu => by
  simp only [List.mem_cons, List.not_mem_nil, or_false] at hu
  rcases hu with rfl | rfl | rfl <;> rfl⟩
def eRN : Enc CN 4 := ⟨fun a => [.int .i64 a.id, .int .i64 a.stamp, .int .i64 a.site, .int .i64 a.round], fun _ => rfl, by decide, fun x u hu => by
  simp only [List.mem_cons, List.not_mem_nil, or_false] at hu
  rcases hu with rfl | rfl | rfl | rfl <;> rfl⟩
theorem TCE : ElemT Try.prog 23 30 2 16 := .of (by kernel_rfl)
theorem TCS : ElemT Try.prog 93 176 3 24 := .of (by kernel_rfl)
theorem TRN : ElemT Try.prog 92 108 4 32 := .of (by kernel_rfl)
def outsE (E : List CE) (x : Int) : List Int := (E.filter fun e => e.from_ == x).map (·.to)
/-- The document's rows tell the field. -/
structure RelK (C : CF) (E : List CE) (Hd : List CS) : Prop where
  ends : ∀ e ∈ E, hasN C.N e.from_ ∧ hasN C.N e.to
  srt : E.Pairwise fun a b => a.to ≤ b.to
  out : ∀ n ∈ C.N, outsE E n.id = n.to
  had : ∀ x a r, 1 ≤ r → ((∃ s ∈ Hd, s.start = x ∧ s.at_ = a ∧ r ≤ s.round) ↔ r ≤ C.seen x a)
def loE (E : List CE) (x : Int) : Nat := E.countP fun e => decide (e.to < x)
def putE (E : List CE) (f t : Int) : List CE := E.take (loE E t) ++ [⟨f, t⟩] ++ E.drop (loE E t)
theorem loE_le (E : List CE) (x : Int) : loE E x ≤ E.length := List.countP_le_length
theorem loE_cut : ∀ {E : List CE} (_ : E.Pairwise fun a b => a.to ≤ b.to) (x : Int), (∀ j, (hj : j < E.length) → j < loE E x → E[j].to < x) ∧ ∀ j, (hj : j < E.length) → loE E x ≤ j → x ≤ E[j].to
  | [], _, x => ⟨fun j hj => absurd hj (Nat.not_lt_zero _), fun j hj => absurd hj (Nat.not_lt_zero _)⟩
  | a :: l, h, x => by
    obtain ⟨h1, h2⟩ := List.pairwise_cons.1 h
    have ih := loE_cut h2 x
    by_cases ha : a.to < x
    · have e : loE (a :: l) x = loE l x + 1 := by unfold loE; rw [List.countP_cons_of_pos (by simpa using ha)]
      rw [e]
      refine ⟨fun j hj hji => ?_, fun j hj hji => ?_⟩
      · cases j with
        | zero => exact ha
        | succ j => exact ih.1 j (by simpa using hj) (by omega)
      · cases j with
        | zero => omega
        | succ j => exact ih.2 j (by simpa using hj) (by omega)
    · have e : loE (a :: l) x = 0 := by
        unfold loE
        rw [List.countP_cons_of_neg (by simpa using ha), List.countP_eq_zero]
        intro r hr
        have := h1 r hr
        simp; omega
      rw [e]
      refine ⟨fun j _ hji => absurd hji (Nat.not_lt_zero _), fun j hj _ => ?_⟩
      cases j with
      | zero => show x ≤ a.to; omega
      | succ j =>
        have := h1 _ (List.getElem_mem (show j < l.length by simpa using hj))
        show x ≤ (l[j]'(by simpa using hj)).to
        omega
theorem loE_uniq {E : List CE} (h : E.Pairwise fun a b => a.to ≤ b.to) {x : Int} {i : Nat} (hi : i ≤ E.length) (h1 : ∀ j, (hj : j < E.length) → j < i → E[j].to < x) (h2 : i < E.length → ∀ hi : i < E.length, x ≤ E[i].to) : i = loE E x := by
  have c := loE_cut h x
  have := loE_le E x
  rcases Nat.lt_trichotomy i (loE E x) with hlt | he | hgt
  · have a := c.1 i (by omega) hlt
    have b := h2 (by omega) (by omega)
    omega
  · exact he
  · have a := c.2 (loE E x) (by omega) (Nat.le_refl _)
    have b := h1 (loE E x) (by omega) hgt
    omega
theorem mem_outsE {E : List CE} {x t : Int} : t ∈ outsE E x ↔ ∃ e ∈ E, e.from_ = x ∧ e.to = t := by
  unfold outsE
  rw [List.mem_map]
  constructor
  · rintro ⟨e, he, rfl⟩
    obtain ⟨h1, h2⟩ := List.mem_filter.1 he
    exact ⟨e, h1, by simpa using h2, rfl⟩
  · rintro ⟨e, he, h1, h2⟩
    exact ⟨e, List.mem_filter.2 ⟨he, by simpa using h1⟩, h2⟩
section
variable {C : CF} {E : List CE} {Hd : List CS} {s k N : Nat}
theorem RelK.mem (hr : RelK C E Hd) (ho : COk s N C) {x t : Int} (hx : hasN C.N x) : t ∈ (nd C.N x).to ↔ ∃ e ∈ E, e.from_ = x ∧ e.to = t := by
  obtain ⟨h1, h2⟩ := nd_mem hx
  rw [← hr.out _ h1, h2, mem_outsE]
theorem RelK.node (hr : RelK C E Hd) (ho : COk s N C) (id stamp site : Int) : RelK (kNode s C id stamp site).1 E Hd := by
  unfold kNode
  split
  · exact hr
  · split
    · exact hr
    · rename_i hn
      split
      · exact hr
      · have hg := grow_app (n := ⟨id, stamp, site, 0, []⟩) ho.uniq hn (Int.le_refl _)
        refine ⟨fun e he => ⟨hg.has _ (hr.ends e he).1, hg.has _ (hr.ends e he).2⟩, hr.srt, fun n hm => ?_, hr.had⟩
        rcases List.mem_append.1 hm with hm | hm
        · exact hr.out n hm
        · rw [List.mem_singleton.1 hm]
          cases hl : outsE E id with
          | nil => rfl
          | cons t l =>
            obtain ⟨e, he, h1, _⟩ := mem_outsE.1 (show t ∈ outsE E id by rw [hl]; exact List.mem_cons_self ..)
            exact absurd (h1 ▸ (hr.ends e he).1) hn
theorem outsE_put (E : List CE) (f t x : Int) : outsE (putE E f t) x = outsE (E.take (loE E t)) x ++ (if f = x then [t] else []) ++ outsE (E.drop (loE E t)) x := by
  unfold outsE putE
  rw [List.filter_append, List.filter_append, List.map_append, List.map_append]
  congr 2
  by_cases h : f = x
  · rw [if_pos h, List.filter_cons_of_pos (by simpa using h)]; rfl
  · rw [if_neg h, List.filter_cons_of_neg (by simpa using h)]; rfl
theorem outsE_app (A B : List CE) (x : Int) : outsE (A ++ B) x = outsE A x ++ outsE B x := by
  unfold outsE
  rw [List.filter_append, List.map_append]
theorem RelK.edge (hr : RelK C E Hd) (ho : COk s N C) {f t : Int} (hft : f ≠ t) (hf : hasN C.N f) (ht : hasN C.N t) (hno : ∀ e ∈ E, e.from_ = f → e.to ≠ t) : RelK (kEdge C f t).1 (putE E f t) Hd := by
  unfold kEdge
  rw [if_neg hft, if_neg fun x => x ⟨hf, ht⟩]
  have c := loE_cut hr.srt t
  have hg : Grow C.N (updN C.N f fun n => { n with to := insI n.to t }) := grow_upd (fun _ => rfl) ho.uniq hf (fun _ => rfl) (fun _ => Int.le_refl _) fun n y hy => mem_insI.2 (.inr hy)
  have hmem : ∀ e ∈ putE E f t, e = ⟨f, t⟩ ∨ e ∈ E := fun e he => by
    unfold putE at he
    rcases List.mem_append.1 he with he | he
    · rcases List.mem_append.1 he with he | he
      · exact .inr (List.mem_of_mem_take he)
      · exact .inl (List.mem_singleton.1 he)
    · exact .inr (List.mem_of_mem_drop he)
  have tk : ∀ e ∈ E.take (loE E t), e.to < t := fun e he => by
    obtain ⟨j, hj, rfl⟩ := List.getElem_of_mem he
    rw [List.length_take] at hj
    rw [List.getElem_take]
    exact c.1 j (by omega) (by omega)
  have dr : ∀ e ∈ E.drop (loE E t), t ≤ e.to := fun e he => by
    obtain ⟨j, hj, rfl⟩ := List.getElem_of_mem he
    rw [List.length_drop] at hj
    rw [List.getElem_drop]
    exact c.2 _ (by omega) (by omega)
  refine ⟨fun e he => ?_, ?_, fun n hm => ?_, hr.had⟩
  · rcases hmem e he with rfl | he
    · exact ⟨hg.has _ hf, hg.has _ ht⟩
    · exact ⟨hg.has _ (hr.ends e he).1, hg.has _ (hr.ends e he).2⟩
  · unfold putE
    rw [List.append_assoc, List.pairwise_append]
    refine ⟨hr.srt.sublist (List.take_sublist ..), List.pairwise_cons.2 ⟨dr, hr.srt.sublist (List.drop_sublist ..)⟩, fun a ha b hb => ?_⟩
    have h1 := tk a ha
    rcases List.mem_cons.1 hb with rfl | hb
    · show a.to ≤ t; omega
    · have := dr b hb; omega
  · obtain ⟨m, hm2, rfl⟩ := List.mem_map.1 hm
    have hid : (if m.id = f then { m with to := insI m.to t } else m).id = m.id := by split <;> rfl
    rw [outsE_put]
    show _ = (if m.id = f then ({ m with to := insI m.to t } : CN) else m).to
    have hcut : outsE (E.take (loE E t)) m.id ++ outsE (E.drop (loE E t)) m.id = m.to := by
      rw [← outsE_app, List.take_append_drop]; exact hr.out m hm2
    by_cases e : m.id = f
    · rw [if_pos e, if_pos e.symm]
      have hs := (ho.ns m hm2).srt
      have hnm : t ∉ m.to := fun h => by
        rw [← hr.out m hm2] at h
        obtain ⟨e1, he1, h1, h2⟩ := mem_outsE.1 h
        exact hno e1 he1 (h1.trans e) h2
      show outsE _ m.id ++ [t] ++ outsE _ m.id = insI m.to t
      rw [← hcut] at hs hnm ⊢
      have hs2 := List.pairwise_append.1 hs
      refine srtI_ext ?_ (insI_srt hs t) fun y => ?_
      · rw [List.append_assoc]
        refine mid_srt hs2.1 hs2.2.1 (fun y hy => ?_) fun y hy => ?_
        · obtain ⟨e1, he1, _, h2⟩ := mem_outsE.1 hy
          rw [← h2]; exact tk e1 he1
        · obtain ⟨e1, he1, _, h2⟩ := mem_outsE.1 hy
          have h3 := dr e1 he1
          have h4 : y ≠ t := fun e5 => hnm (List.mem_append_right _ (e5 ▸ hy))
          omega
      · rw [mem_insI]
        simp only [List.mem_append, List.mem_cons, List.not_mem_nil, or_false]
        constructor
        · rintro ((h | h) | h)
          · exact .inr (.inl h)
          · exact .inl h
          · exact .inr (.inr h)
        · rintro (h | h | h)
          · exact .inl (.inr h)
          · exact .inl (.inl h)
          · exact .inr h
    · rw [if_neg e, if_neg fun x => e x.symm, List.append_nil]
      exact hcut
theorem RelK.upd (hr : RelK C E Hd) (ho : COk s N C) {x : Int} {f : CN → CN} (hf : ∀ n, (f n).id = n.id) (ht : ∀ n, (f n).to = n.to) (fl : List CP) (vs : List Int) : RelK ⟨updN C.N x f, fl, vs, C.seen⟩ E Hd := by
  refine ⟨fun e he => ⟨(hasN_upd hf).2 (hr.ends e he).1, (hasN_upd hf).2 (hr.ends e he).2⟩, hr.srt, fun n hm => ?_, hr.had⟩
  obtain ⟨m, hm2, rfl⟩ := List.mem_map.1 hm
  split
  · rw [hf, ht]; exact hr.out m hm2
  · exact hr.out m hm2
theorem RelK.rest (hr : RelK C E Hd) (fl : List CP) (vs : List Int) : RelK ⟨C.N, fl, vs, C.seen⟩ E Hd := ⟨hr.ends, hr.srt, hr.out, hr.had⟩
theorem RelK.seenUp (hr : RelK C E Hd) {p : CP} (h1 : 1 ≤ p.round) (h : C.seen p.start p.at_ < p.round) : RelK { C with seen := fun x a => if x = p.start ∧ a = p.at_ then p.round else C.seen x a } E (Hd ++ [⟨p.start, p.at_, p.round⟩]) := by
  refine ⟨hr.ends, hr.srt, hr.out, fun x a r h2 => ?_⟩
  have h0 := hr.had x a r h2
  show _ ↔ r ≤ if x = p.start ∧ a = p.at_ then p.round else C.seen x a
  constructor
  · rintro ⟨s, hs, h3, h4, h5⟩
    rcases List.mem_append.1 hs with hs | hs
    · have := h0.1 ⟨s, hs, h3, h4, h5⟩
      split
      · rename_i e; rw [e.1, e.2] at this; omega
      · exact this
    · rw [List.mem_singleton.1 hs] at h3 h4 h5
      rw [if_pos ⟨h3.symm, h4.symm⟩]; exact h5
  · intro h3
    split at h3
    · rename_i e
      exact ⟨_, List.mem_append_right _ (List.mem_cons_self ..), e.1.symm, e.2.symm, h3⟩
    · obtain ⟨s, hs, h4⟩ := h0.2 h3
      exact ⟨s, List.mem_append_left _ hs, h4⟩
end
/-! ## Contracts -/
def ref6 (d : Nat) (ty : TypeId) (n : Nat) (sN sE sH sF sV : Sl) (C : CF) (E : List CE) (Hd : List CS) : List Res :=
  [.blk d ty [.int .i64 (n : Int), .slice sN.a sN.n sN.c, .slice sE.a sE.n sE.c, .slice sH.a sH.n sH.c, .slice sF.a sF.n sF.c, .slice sV.a sV.n sV.c], .own sN 4 (eRN.fl C.N), .own sE 2 (eCE.fl E), .own sH 3 (eCS.fl Hd), .own sF 4 (eCP.fl C.fl), .own sV 1 (eNum.fl C.vs)]
section
variable {h0 h : Heap} {G : List Res} {d s k N : Nat} {ty : TypeId} {sN sE sH sF sV : Sl} {C : CF} {E : List CE} {Hd : List CS}
theorem ref14_place_ok {x : Int} {R : Int → Heap → Prop} (H : At h0 h (ref6 d ty s sN sE sH sF sV C E Hd ++ G)) (hlen : C.N.length ≤ 64) (hb : ¬ hasN C.N x → ∀ h', At h0 h' (ref6 d ty s sN sE sH sF sV C E Hd ++ G) → R (-1) h')
    (hg : ∀ j : Nat, (hj : j < C.N.length) → C.N[j].id = x → ∀ h', At h0 h' (ref6 d ty s sN sE sH sF sV C E Hd ++ G) → R (j : Int) h') : C_ref14_Field_place (some ⟨d, 0, none⟩) x h R := by
  refine A_ref14_Field_place ?_
  unfold S_ref14_Field_place
  have hsn := H.n 1 rfl
  repeat (first | with_reducible refine nn ?_ | with_reducible refine let_ ?_ | with_reducible refine brSome ?_ | with_reducible refine brF ?_ | with_reducible refine brT ?_ | ((with_reducible apply ldAt H 0); exact rfl; exact rfl) | ((with_reducible apply ldAt0 H 0); exact rfl; exact rfl) | ((with_reducible apply stAt H 0); exact rfl; exact rfl; intro h H) | ((with_reducible apply stAt0 H 0); exact rfl; exact rfl; intro h H) | ((with_reducible refine ⟨?_, ?_⟩); first | ((with_reducible apply ldAt H 0); exact rfl; exact rfl; exact rfl) | ((with_reducible apply ldAt0 H 0); exact rfl; exact rfl; exact rfl)))
  refine loop1 (s1 := .one (.int .i64)) (fun (y : Int) h1 => ∃ j : Nat, y = j ∧ j ≤ C.N.length ∧ At h0 h1 (ref6 d ty s sN sE sH sF sV C E Hd ++ G) ∧ ∀ i, (hi : i < C.N.length) → i < j → C.N[i].id ≠ x) (fun (y : Int) _ => (C.N.length - y).toNat)
    ⟨0, rfl, Nat.zero_le _, H, fun i _ hi => absurd hi (Nat.not_lt_zero _)⟩ fun _ (y : Int) h1 hI => ?_
  obtain ⟨j, rfl, hj, H, hno⟩ := hI
  refine brD (fun hc => ?_) fun hc => ?_
  · have hj2 : j < C.N.length := by omega
    refine ixAt H 1 rfl j rfl hj2 fun e he => ?_
    repeat (first | with_reducible refine nn ?_ | with_reducible refine let_ ?_ | with_reducible refine brSome ?_ | with_reducible refine brF ?_ | with_reducible refine brT ?_ | ((with_reducible apply ldAt H 0); exact rfl; exact rfl) | ((with_reducible apply ldAt0 H 0); exact rfl; exact rfl) | ((with_reducible apply ldAt H 1); exact rfl; exact rfl) | ((with_reducible apply ldAt0 H 1); exact rfl; exact rfl) | ((with_reducible apply ldEl H 0); exact rfl; assumption; (case hk => assumption); exact rfl) | ((with_reducible apply ldEl0 H 0); exact rfl; assumption; (case hk => assumption); exact rfl) | ((with_reducible apply ldElS H 0); exact rfl; assumption; (case hk => assumption); exact rfl) | ((with_reducible apply ldElS0 H 0); exact rfl; assumption; (case hk => assumption); exact rfl) | ((with_reducible apply ldEl H 1); exact rfl; assumption; (case hk => assumption); exact rfl) | ((with_reducible apply ldEl0 H 1); exact rfl; assumption; (case hk => assumption); exact rfl) | ((with_reducible apply ldElS H 1); exact rfl; assumption; (case hk => assumption); exact rfl) | ((with_reducible apply ldElS0 H 1); exact rfl; assumption; (case hk => assumption); exact rfl) | ((with_reducible apply stAt H 0); exact rfl; exact rfl; intro h H) | ((with_reducible apply stAt0 H 0); exact rfl; exact rfl; intro h H) | ((with_reducible apply stAt H 1); exact rfl; exact rfl; intro h H) | ((with_reducible apply stAt0 H 1); exact rfl; exact rfl; intro h H) | ((with_reducible apply stElS (E := eRN) ⟨_, _, _, _⟩ H 0); exact rfl; assumption; (case hk => assumption); exact rfl; (first | exact rfl | (dsimp only [eRN, List.set_cons_succ, List.set_cons_zero] <;> exact rfl)); intro h H) | ((with_reducible apply stElS0 (E := eRN) ⟨_, _, _, _⟩ H 0); exact rfl; assumption; (case hk => assumption); (first | exact rfl | (dsimp only [eRN, List.set_cons_succ, List.set_cons_zero] <;> exact rfl)); intro h H) | ((with_reducible apply stEl (E := eRN) ⟨_, _, _, _⟩ H 0); exact rfl; assumption; (case hk => assumption); exact rfl; (first | exact rfl | (dsimp only [eRN, List.set_cons_succ, List.set_cons_zero] <;> exact rfl)); intro h H) | ((with_reducible apply stEl0 (E := eRN) ⟨_, _, _, _⟩ H 0); exact rfl; assumption; (case hk => assumption); (first | exact rfl | (dsimp only [eRN, List.set_cons_succ, List.set_cons_zero] <;> exact rfl)); intro h H) | ((with_reducible apply stElS (E := eRN) ⟨_, _, _, _⟩ H 1); exact rfl; assumption; (case hk => assumption); exact rfl; (first | exact rfl | (dsimp only [eRN, List.set_cons_succ, List.set_cons_zero] <;> exact rfl)); intro h H) | ((with_reducible apply stElS0 (E := eRN) ⟨_, _, _, _⟩ H 1); exact rfl; assumption; (case hk => assumption); (first | exact rfl | (dsimp only [eRN, List.set_cons_succ, List.set_cons_zero] <;> exact rfl)); intro h H) | ((with_reducible apply stEl (E := eRN) ⟨_, _, _, _⟩ H 1); exact rfl; assumption; (case hk => assumption); exact rfl; (first | exact rfl | (dsimp only [eRN, List.set_cons_succ, List.set_cons_zero] <;> exact rfl)); intro h H) | ((with_reducible apply stEl0 (E := eRN) ⟨_, _, _, _⟩ H 1); exact rfl; assumption; (case hk => assumption); (first | exact rfl | (dsimp only [eRN, List.set_cons_succ, List.set_cons_zero] <;> exact rfl)); intro h H) | ((with_reducible apply allocAt H); intro h b H) | ((with_reducible refine ⟨?_, ?_⟩); first | ((with_reducible apply ldAt H 0); exact rfl; exact rfl; exact rfl) | ((with_reducible apply ldAt0 H 0); exact rfl; exact rfl; exact rfl) | ((with_reducible apply ldAt H 1); exact rfl; exact rfl; exact rfl) | ((with_reducible apply ldAt0 H 1); exact rfl; exact rfl; exact rfl) | ((with_reducible apply ldEl H 0); exact rfl; assumption; (case hk => assumption); exact rfl; exact rfl) | ((with_reducible apply ldEl0 H 0); exact rfl; assumption; (case hk => assumption); exact rfl; exact rfl) | ((with_reducible apply ldElS H 0); exact rfl; assumption; (case hk => assumption); exact rfl; exact rfl) | ((with_reducible apply ldElS0 H 0); exact rfl; assumption; (case hk => assumption); exact rfl; exact rfl) | ((with_reducible apply ldEl H 1); exact rfl; assumption; (case hk => assumption); exact rfl; exact rfl) | ((with_reducible apply ldEl0 H 1); exact rfl; assumption; (case hk => assumption); exact rfl; exact rfl) | ((with_reducible apply ldElS H 1); exact rfl; assumption; (case hk => assumption); exact rfl; exact rfl) | ((with_reducible apply ldElS0 H 1); exact rfl; assumption; (case hk => assumption); exact rfl; exact rfl)))
    refine br beq_iff_eq (fun hx => hg j hj2 hx _ H.tail) fun hx => ?_
    rw [w64 (by omega) (by omega)]
    refine ⟨⟨j + 1, by omega, by omega, H.tail, fun i hi hij => ?_⟩, by omega⟩
    by_cases e : i < j
    · exact hno i hi e
    · obtain rfl : i = j := by omega
      exact hx
  · refine hb (fun ⟨n, hn, e⟩ => ?_) _ H
    obtain ⟨i, hi, rfl⟩ := List.getElem_of_mem hn
    exact hno i hi (by omega) e
theorem ref14_Node_ok {id stamp site : Int} {R : Int → Heap → Prop} (H : At h0 h (ref6 d ty s sN sE sH sF sV C E Hd ++ G)) (ho : COk s N C)
    (hR : ∀ h' sN', At h0 h' (ref6 d ty s sN' sE sH sF sV (kNode s C id stamp site).1 E Hd ++ G) → R (kNode s C id stamp site).2 h') : C_ref14_Field_Node (some ⟨d, 0, none⟩) id stamp site h R := by
  refine A_ref14_Field_Node ?_
  unfold S_ref14_Field_Node
  unfold kNode at hR
  have hl64 := ho.len
  have hnn := H.n 1 rfl
  refine join1 (s1 := .one .bool) (fun (b : Bool) h3 => (b = true ↔ (id < 0 ∨ stamp < 0 ∨ stamp > 1099511627776 ∨ site < 0 ∨ site ≥ s)) ∧ h3 = h) (fun _ (b : Bool) h3 hJ => ?_) ?_
  · obtain ⟨hb, rfl⟩ := hJ
    refine brB (fun hbt => ?_) fun hbf => ?_
    · rw [if_pos (hb.1 hbt)] at hR
      exact hR _ _ H
    · have hr1 : ¬ (id < 0 ∨ stamp < 0 ∨ stamp > 1099511627776 ∨ site < 0 ∨ site ≥ s) := fun x => by rw [hb.2 x] at hbf; exact nomatch hbf
      rw [if_neg hr1] at hR
      refine ref14_place_ok H (by omega) (fun hno h' H => ?_) fun q hq hqi h' H => ?_
      · rw [if_neg hno] at hR
        refine brN rfl ?_
        repeat (first | with_reducible refine nn ?_ | with_reducible refine let_ ?_ | with_reducible refine brSome ?_ | with_reducible refine brF ?_ | with_reducible refine brT ?_ | ((with_reducible apply ldAt H 0); exact rfl; exact rfl) | ((with_reducible apply ldAt0 H 0); exact rfl; exact rfl) | ((with_reducible apply stAt H 0); exact rfl; exact rfl; intro h H) | ((with_reducible apply stAt0 H 0); exact rfl; exact rfl; intro h H) | ((with_reducible refine ⟨?_, ?_⟩); first | ((with_reducible apply ldAt H 0); exact rfl; exact rfl; exact rfl) | ((with_reducible apply ldAt0 H 0); exact rfl; exact rfl; exact rfl)))
        refine brD (fun h64 => ?_) fun h64 => ?_
        · rw [if_pos (by omega)] at hR
          exact hR _ _ H
        · rw [if_neg (by omega)] at hR
          repeat (first | with_reducible refine nn ?_ | with_reducible refine let_ ?_ | with_reducible refine brSome ?_ | with_reducible refine brF ?_ | with_reducible refine brT ?_ | ((with_reducible apply ldAt H 0); exact rfl; exact rfl) | ((with_reducible apply ldAt0 H 0); exact rfl; exact rfl) | ((with_reducible apply ldAt H 1); exact rfl; exact rfl) | ((with_reducible apply ldAt0 H 1); exact rfl; exact rfl) | ((with_reducible apply stAt H 0); exact rfl; exact rfl; intro h H) | ((with_reducible apply stAt0 H 0); exact rfl; exact rfl; intro h H) | ((with_reducible apply stAt H 1); exact rfl; exact rfl; intro h H) | ((with_reducible apply stAt0 H 1); exact rfl; exact rfl; intro h H) | ((with_reducible apply allocAt H); intro h b H) | ((with_reducible refine ⟨?_, ?_⟩); first | ((with_reducible apply ldAt H 0); exact rfl; exact rfl; exact rfl) | ((with_reducible apply ldAt0 H 0); exact rfl; exact rfl; exact rfl) | ((with_reducible apply ldAt H 1); exact rfl; exact rfl; exact rfl) | ((with_reducible apply ldAt0 H 1); exact rfl; exact rfl; exact rfl)))
          refine app1B (E := eRN) TRN H 2 rfl 0 rfl ⟨id, stamp, site, 0, []⟩ rfl (by omega) (by omega) fun s3 h H => ?_
          repeat (first | with_reducible refine nn ?_ | with_reducible refine let_ ?_ | with_reducible refine brSome ?_ | with_reducible refine brF ?_ | with_reducible refine brT ?_ | ((with_reducible apply ldAt H 0); exact rfl; exact rfl) | ((with_reducible apply ldAt0 H 0); exact rfl; exact rfl) | ((with_reducible apply ldAt H 1); exact rfl; exact rfl) | ((with_reducible apply ldAt0 H 1); exact rfl; exact rfl) | ((with_reducible apply stAt H 0); exact rfl; exact rfl; intro h H) | ((with_reducible apply stAt0 H 0); exact rfl; exact rfl; intro h H) | ((with_reducible apply stAt H 1); exact rfl; exact rfl; intro h H) | ((with_reducible apply stAt0 H 1); exact rfl; exact rfl; intro h H) | ((with_reducible apply allocAt H); intro h b H) | ((with_reducible refine ⟨?_, ?_⟩); first | ((with_reducible apply ldAt H 0); exact rfl; exact rfl; exact rfl) | ((with_reducible apply ldAt0 H 0); exact rfl; exact rfl; exact rfl) | ((with_reducible apply ldAt H 1); exact rfl; exact rfl; exact rfl) | ((with_reducible apply ldAt0 H 1); exact rfl; exact rfl; exact rfl)))
          exact hR _ _ H.tail
      · rw [if_pos ⟨_, List.getElem_mem hq, hqi⟩] at hR
        exact brY (by simp) (hR _ _ H)
  · refine brD (fun h1 => ⟨⟨fun _ => .inl h1, fun _ => rfl⟩, rfl⟩) fun h1 => ?_
    refine brD (fun h2 => ⟨⟨fun _ => .inr (.inl h2), fun _ => rfl⟩, rfl⟩) fun h2 => ?_
    refine brD (fun h3 => ⟨⟨fun _ => .inr (.inr (.inl h3)), fun _ => rfl⟩, rfl⟩) fun h3 => ?_
    refine brD (fun h4 => ⟨⟨fun _ => .inr (.inr (.inr (.inl h4))), fun _ => rfl⟩, rfl⟩) fun h4 => ?_
    repeat (first | with_reducible refine nn ?_ | with_reducible refine let_ ?_ | with_reducible refine brSome ?_ | with_reducible refine brF ?_ | with_reducible refine brT ?_ | ((with_reducible apply ldAt H 0); exact rfl; exact rfl) | ((with_reducible apply ldAt0 H 0); exact rfl; exact rfl) | ((with_reducible apply stAt H 0); exact rfl; exact rfl; intro h H) | ((with_reducible apply stAt0 H 0); exact rfl; exact rfl; intro h H) | ((with_reducible refine ⟨?_, ?_⟩); first | ((with_reducible apply ldAt H 0); exact rfl; exact rfl; exact rfl) | ((with_reducible apply ldAt0 H 0); exact rfl; exact rfl; exact rfl)))
    refine ⟨?_, rfl⟩
    rw [decide_eq_true_iff]
    exact ⟨fun x => by omega, fun x => by omega⟩
theorem eRN_to (N : List CN) (x : Int) (g : CN → List Int) : eRN.fl (updN N x fun n => { n with to := g n }) = eRN.fl N := by
  unfold Enc.fl updN
  rw [List.flatMap_map]
  congr 1
  funext n
  show eRN.cells (if _ then _ else _) = _
  split <;> rfl
set_option maxHeartbeats 3200000 in
theorem ref14_Edge_ok {f t : Int} {R : Int → Heap → Prop} (H : At h0 h (ref6 d ty s sN sE sH sF sV C E Hd ++ G)) (ho : COk s N C) (hr : RelK C E Hd) (hEl : E.length ≤ 100000)
    (hR : ∀ h' sE' E', At h0 h' (ref6 d ty s sN sE' sH sF sV (kEdge C f t).1 E' Hd ++ G) → RelK (kEdge C f t).1 E' Hd → E'.length ≤ E.length + 1 → R (kEdge C f t).2 h') : C_ref14_Field_Edge (some ⟨d, 0, none⟩) f t h R := by
  refine A_ref14_Field_Edge ?_
  unfold S_ref14_Field_Edge
  have hl64 := ho.len
  have hnn := H.n 2 rfl
  have hcc := (H.own 2 rfl).2.1
  have hRk := hr.edge ho (f := f) (t := t)
  unfold kEdge at hR hRk
  refine br beq_iff_eq (fun hft => ?_) fun hft => ?_
  · rw [if_pos hft] at hR; exact hR _ _ _ H hr (by omega)
  rw [if_neg hft] at hR hRk
  refine join1 (s1 := .one .bool) (fun (b : Bool) h3 => (b = true ↔ ¬ (hasN C.N f ∧ hasN C.N t)) ∧ At h0 h3 (ref6 d ty s sN sE sH sF sV C E Hd ++ G)) (fun _ (b : Bool) h3 hJ => ?_) ?_
  rotate_left
  · refine ref14_place_ok H (by omega) (fun hno h' H => brY (by simp) ⟨⟨fun _ x => hno x.1, fun _ => rfl⟩, H⟩) fun q hq hqi h' H => brN (by simp) ?_
    refine ref14_place_ok H (by omega) (fun hno h' H => ⟨⟨fun _ x => hno x.2, fun _ => rfl⟩, H⟩) fun q2 hq2 hqi2 h' H => ⟨⟨fun x => by simp at x; omega, fun x => absurd ⟨⟨_, List.getElem_mem hq, hqi⟩, ⟨_, List.getElem_mem hq2, hqi2⟩⟩ x⟩, H⟩
  obtain ⟨hb, H⟩ := hJ
  refine brB (fun hbt => ?_) fun hbf => ?_
  · rw [if_pos (hb.1 hbt)] at hR; exact hR _ _ _ H hr (by omega)
  have hft2 : hasN C.N f ∧ hasN C.N t := Decidable.byContradiction fun x => by rw [hb.2 x] at hbf; exact nomatch hbf
  rw [if_neg fun x => x hft2] at hR hRk
  have hid : (∃ e ∈ E, e.from_ = f ∧ e.to = t) → updN C.N f (fun n => { n with to := insI n.to t }) = C.N := fun he => by
    have hm := (hr.mem ho hft2.1).2 he
    obtain ⟨h1, h2⟩ := nd_mem hft2.1
    obtain ⟨q, hq, e⟩ := List.getElem_of_mem h1
    have := updN_set ho.uniq hq fun n => { n with to := insI n.to t }
    rw [e, h2] at this
    rw [this]
    have e3 : insI (nd C.N f).to t = (nd C.N f).to := by unfold insI; rw [if_pos hm]
    rw [e3]
    rw [show ({ id := f, stamp := (nd C.N f).stamp, site := (nd C.N f).site, round := (nd C.N f).round, to := (nd C.N f).to } : CN) = nd C.N f from congrArg (fun i => (⟨i, (nd C.N f).stamp, (nd C.N f).site, (nd C.N f).round, (nd C.N f).to⟩ : CN)) h2.symm]
    rw [← e]; exact List.set_getElem_self ..
  have hcut := loE_cut hr.srt t
  have hle := loE_le E t
  refine join1 (s1 := .one (.int .i64)) (fun (y : Int) h4 => y = (loE E t : Nat) ∧ h4 = h3) (fun _ (y : Int) h4 hJ => ?_) ?_
  rotate_left
  · refine loop1 (s1 := .one (.int .i64)) (fun (y : Int) h4 => ∃ i : Nat, y = i ∧ i ≤ E.length ∧ h4 = h3 ∧ ∀ j, (hj : j < E.length) → j < i → E[j].to < t) (fun (y : Int) _ => (E.length - y).toNat)
      ⟨0, rfl, Nat.zero_le _, rfl, fun j _ hj => absurd hj (Nat.not_lt_zero _)⟩ fun _ (y : Int) h4 hI => ?_
    obtain ⟨i, rfl, hi, rfl, hlo⟩ := hI
    repeat (first | with_reducible refine nn ?_ | with_reducible refine let_ ?_ | with_reducible refine brSome ?_ | with_reducible refine brF ?_ | with_reducible refine brT ?_ | ((with_reducible apply ldAt H 0); exact rfl; exact rfl) | ((with_reducible apply ldAt0 H 0); exact rfl; exact rfl) | ((with_reducible apply stAt H 0); exact rfl; exact rfl; intro h H) | ((with_reducible apply stAt0 H 0); exact rfl; exact rfl; intro h H) | ((with_reducible refine ⟨?_, ?_⟩); first | ((with_reducible apply ldAt H 0); exact rfl; exact rfl; exact rfl) | ((with_reducible apply ldAt0 H 0); exact rfl; exact rfl; exact rfl)))
    refine brD (fun hc => ?_) fun hc => ⟨by rw [loE_uniq hr.srt hi hlo (fun h => by omega)], rfl⟩
    have hi2 : i < E.length := by omega
    repeat (first | with_reducible refine nn ?_ | with_reducible refine let_ ?_ | with_reducible refine brSome ?_ | with_reducible refine brF ?_ | with_reducible refine brT ?_ | ((with_reducible apply ldAt H 0); exact rfl; exact rfl) | ((with_reducible apply ldAt0 H 0); exact rfl; exact rfl) | ((with_reducible apply stAt H 0); exact rfl; exact rfl; intro h H) | ((with_reducible apply stAt0 H 0); exact rfl; exact rfl; intro h H) | ((with_reducible refine ⟨?_, ?_⟩); first | ((with_reducible apply ldAt H 0); exact rfl; exact rfl; exact rfl) | ((with_reducible apply ldAt0 H 0); exact rfl; exact rfl; exact rfl)))
    refine ixAt H 2 rfl i rfl hi2 fun e he => ?_
    refine ldEl (j := 1) H 2 rfl he hi2 E[i].to rfl ?_
    refine brD (fun hlt => let_ ?_) fun hge => ⟨by rw [loE_uniq hr.srt hi hlo (fun _ _ => by omega)], rfl⟩
    rw [w64 (by omega) (by omega)]
    refine ⟨⟨i + 1, by omega, by omega, rfl, fun j hj hji => ?_⟩, by omega⟩
    by_cases e : j < i
    · exact hlo j hj e
    · obtain rfl : j = i := by omega
      exact hlt
  obtain ⟨rfl, rfl⟩ := hJ
  repeat (first | with_reducible refine nn ?_ | with_reducible refine let_ ?_ | with_reducible refine brSome ?_ | with_reducible refine brF ?_ | with_reducible refine brT ?_ | ((with_reducible apply ldAt H 0); exact rfl; exact rfl) | ((with_reducible apply ldAt0 H 0); exact rfl; exact rfl) | ((with_reducible apply stAt H 0); exact rfl; exact rfl; intro h H) | ((with_reducible apply stAt0 H 0); exact rfl; exact rfl; intro h H) | ((with_reducible refine ⟨?_, ?_⟩); first | ((with_reducible apply ldAt H 0); exact rfl; exact rfl; exact rfl) | ((with_reducible apply ldAt0 H 0); exact rfl; exact rfl; exact rfl)))
  refine loop1 (s1 := .one (.int .i64)) (fun (y : Int) h5 => ∃ i : Nat, y = i ∧ i ≤ E.length ∧ At h0 h5 (ref6 d ty s sN sE sH sF sV C E Hd ++ G) ∧ ∀ j, (hj : j < E.length) → j < i → E[j].from_ = f → E[j].to ≠ t) (fun (y : Int) _ => (E.length - y).toNat)
    ⟨0, rfl, Nat.zero_le _, H, fun j _ hj => absurd hj (Nat.not_lt_zero _)⟩ fun _ (y : Int) h5 hI => ?_
  obtain ⟨i, rfl, hi, H, hno⟩ := hI
  refine brD (fun hc => ?_) fun hc => ?_
  · have hi2 : i < E.length := by omega
    refine ixAt H 2 rfl i rfl hi2 fun e he => ?_
    repeat (first | with_reducible refine nn ?_ | with_reducible refine let_ ?_ | with_reducible refine brSome ?_ | with_reducible refine brF ?_ | with_reducible refine brT ?_ | ((with_reducible apply ldAt H 0); exact rfl; exact rfl) | ((with_reducible apply ldAt0 H 0); exact rfl; exact rfl) | ((with_reducible apply ldAt H 1); exact rfl; exact rfl) | ((with_reducible apply ldAt0 H 1); exact rfl; exact rfl) | ((with_reducible apply ldAt H 2); exact rfl; exact rfl) | ((with_reducible apply ldAt0 H 2); exact rfl; exact rfl) | ((with_reducible apply ldEl H 0); exact rfl; assumption; (case hk => assumption); exact rfl) | ((with_reducible apply ldEl0 H 0); exact rfl; assumption; (case hk => assumption); exact rfl) | ((with_reducible apply ldElS H 0); exact rfl; assumption; (case hk => assumption); exact rfl) | ((with_reducible apply ldElS0 H 0); exact rfl; assumption; (case hk => assumption); exact rfl) | ((with_reducible apply ldEl H 1); exact rfl; assumption; (case hk => assumption); exact rfl) | ((with_reducible apply ldEl0 H 1); exact rfl; assumption; (case hk => assumption); exact rfl) | ((with_reducible apply ldElS H 1); exact rfl; assumption; (case hk => assumption); exact rfl) | ((with_reducible apply ldElS0 H 1); exact rfl; assumption; (case hk => assumption); exact rfl) | ((with_reducible apply ldEl H 2); exact rfl; assumption; (case hk => assumption); exact rfl) | ((with_reducible apply ldEl0 H 2); exact rfl; assumption; (case hk => assumption); exact rfl) | ((with_reducible apply ldElS H 2); exact rfl; assumption; (case hk => assumption); exact rfl) | ((with_reducible apply ldElS0 H 2); exact rfl; assumption; (case hk => assumption); exact rfl) | ((with_reducible apply stAt H 0); exact rfl; exact rfl; intro h H) | ((with_reducible apply stAt0 H 0); exact rfl; exact rfl; intro h H) | ((with_reducible apply stAt H 1); exact rfl; exact rfl; intro h H) | ((with_reducible apply stAt0 H 1); exact rfl; exact rfl; intro h H) | ((with_reducible apply stAt H 2); exact rfl; exact rfl; intro h H) | ((with_reducible apply stAt0 H 2); exact rfl; exact rfl; intro h H) | ((with_reducible apply stElS (E := eCE) ⟨_, _⟩ H 0); exact rfl; assumption; (case hk => assumption); exact rfl; (first | exact rfl | (dsimp only [eCE, List.set_cons_succ, List.set_cons_zero] <;> exact rfl)); intro h H) | ((with_reducible apply stElS0 (E := eCE) ⟨_, _⟩ H 0); exact rfl; assumption; (case hk => assumption); (first | exact rfl | (dsimp only [eCE, List.set_cons_succ, List.set_cons_zero] <;> exact rfl)); intro h H) | ((with_reducible apply stEl (E := eCE) ⟨_, _⟩ H 0); exact rfl; assumption; (case hk => assumption); exact rfl; (first | exact rfl | (dsimp only [eCE, List.set_cons_succ, List.set_cons_zero] <;> exact rfl)); intro h H) | ((with_reducible apply stEl0 (E := eCE) ⟨_, _⟩ H 0); exact rfl; assumption; (case hk => assumption); (first | exact rfl | (dsimp only [eCE, List.set_cons_succ, List.set_cons_zero] <;> exact rfl)); intro h H) | ((with_reducible apply stElS (E := eCE) ⟨_, _⟩ H 1); exact rfl; assumption; (case hk => assumption); exact rfl; (first | exact rfl | (dsimp only [eCE, List.set_cons_succ, List.set_cons_zero] <;> exact rfl)); intro h H) | ((with_reducible apply stElS0 (E := eCE) ⟨_, _⟩ H 1); exact rfl; assumption; (case hk => assumption); (first | exact rfl | (dsimp only [eCE, List.set_cons_succ, List.set_cons_zero] <;> exact rfl)); intro h H) | ((with_reducible apply stEl (E := eCE) ⟨_, _⟩ H 1); exact rfl; assumption; (case hk => assumption); exact rfl; (first | exact rfl | (dsimp only [eCE, List.set_cons_succ, List.set_cons_zero] <;> exact rfl)); intro h H) | ((with_reducible apply stEl0 (E := eCE) ⟨_, _⟩ H 1); exact rfl; assumption; (case hk => assumption); (first | exact rfl | (dsimp only [eCE, List.set_cons_succ, List.set_cons_zero] <;> exact rfl)); intro h H) | ((with_reducible apply stElS (E := eCE) ⟨_, _⟩ H 2); exact rfl; assumption; (case hk => assumption); exact rfl; (first | exact rfl | (dsimp only [eCE, List.set_cons_succ, List.set_cons_zero] <;> exact rfl)); intro h H) | ((with_reducible apply stElS0 (E := eCE) ⟨_, _⟩ H 2); exact rfl; assumption; (case hk => assumption); (first | exact rfl | (dsimp only [eCE, List.set_cons_succ, List.set_cons_zero] <;> exact rfl)); intro h H) | ((with_reducible apply stEl (E := eCE) ⟨_, _⟩ H 2); exact rfl; assumption; (case hk => assumption); exact rfl; (first | exact rfl | (dsimp only [eCE, List.set_cons_succ, List.set_cons_zero] <;> exact rfl)); intro h H) | ((with_reducible apply stEl0 (E := eCE) ⟨_, _⟩ H 2); exact rfl; assumption; (case hk => assumption); (first | exact rfl | (dsimp only [eCE, List.set_cons_succ, List.set_cons_zero] <;> exact rfl)); intro h H) | ((with_reducible apply allocAt H); intro h b H) | ((with_reducible refine ⟨?_, ?_⟩); first | ((with_reducible apply ldAt H 0); exact rfl; exact rfl; exact rfl) | ((with_reducible apply ldAt0 H 0); exact rfl; exact rfl; exact rfl) | ((with_reducible apply ldAt H 1); exact rfl; exact rfl; exact rfl) | ((with_reducible apply ldAt0 H 1); exact rfl; exact rfl; exact rfl) | ((with_reducible apply ldAt H 2); exact rfl; exact rfl; exact rfl) | ((with_reducible apply ldAt0 H 2); exact rfl; exact rfl; exact rfl) | ((with_reducible apply ldEl H 0); exact rfl; assumption; (case hk => assumption); exact rfl; exact rfl) | ((with_reducible apply ldEl0 H 0); exact rfl; assumption; (case hk => assumption); exact rfl; exact rfl) | ((with_reducible apply ldElS H 0); exact rfl; assumption; (case hk => assumption); exact rfl; exact rfl) | ((with_reducible apply ldElS0 H 0); exact rfl; assumption; (case hk => assumption); exact rfl; exact rfl) | ((with_reducible apply ldEl H 1); exact rfl; assumption; (case hk => assumption); exact rfl; exact rfl) | ((with_reducible apply ldEl0 H 1); exact rfl; assumption; (case hk => assumption); exact rfl; exact rfl) | ((with_reducible apply ldElS H 1); exact rfl; assumption; (case hk => assumption); exact rfl; exact rfl) | ((with_reducible apply ldElS0 H 1); exact rfl; assumption; (case hk => assumption); exact rfl; exact rfl) | ((with_reducible apply ldEl H 2); exact rfl; assumption; (case hk => assumption); exact rfl; exact rfl) | ((with_reducible apply ldEl0 H 2); exact rfl; assumption; (case hk => assumption); exact rfl; exact rfl) | ((with_reducible apply ldElS H 2); exact rfl; assumption; (case hk => assumption); exact rfl; exact rfl) | ((with_reducible apply ldElS0 H 2); exact rfl; assumption; (case hk => assumption); exact rfl; exact rfl)))
    have next : ¬ (E[i].from_ = f ∧ E[i].to = t) → ∀ j, (hj : j < E.length) → j < i + 1 → E[j].from_ = f → E[j].to ≠ t := fun h6 j hj hji h7 h8 => by
      by_cases e : j < i
      · exact hno j hj e h7 h8
      · obtain rfl : j = i := by omega
        exact h6 ⟨h7, h8⟩
    rw [w64 (by omega) (by omega)]
    refine br beq_iff_eq (fun h6 => ?_) fun h6 => ⟨⟨i + 1, by omega, by omega, H.tail, next fun x => h6 x.1⟩, by omega⟩
    repeat (first | with_reducible refine nn ?_ | with_reducible refine let_ ?_ | with_reducible refine brSome ?_ | with_reducible refine brF ?_ | with_reducible refine brT ?_ | ((with_reducible apply ldAt H 0); exact rfl; exact rfl) | ((with_reducible apply ldAt0 H 0); exact rfl; exact rfl) | ((with_reducible apply stAt H 0); exact rfl; exact rfl; intro h H) | ((with_reducible apply stAt0 H 0); exact rfl; exact rfl; intro h H) | ((with_reducible refine ⟨?_, ?_⟩); first | ((with_reducible apply ldAt H 0); exact rfl; exact rfl; exact rfl) | ((with_reducible apply ldAt0 H 0); exact rfl; exact rfl; exact rfl)))
    refine br beq_iff_eq (fun h7 => ?_) fun h7 => ⟨⟨i + 1, by omega, by omega, H.tail, next fun x => h7 x.2⟩, by omega⟩
    rw [hid ⟨_, List.getElem_mem hi2, h6, h7⟩] at hR
    exact hR _ _ _ H.tail hr (by omega)
  · have hil : i = E.length := by omega
    have hno2 : ∀ e ∈ E, e.from_ = f → e.to ≠ t := fun e he => by
      obtain ⟨j, hj, rfl⟩ := List.getElem_of_mem he
      exact hno j hj (by omega)
    clear hno hi hc hil
    have hlp : (putE E f t).length = E.length + 1 := by
      unfold putE
      rw [List.length_append, List.length_append, List.length_take, List.length_drop, List.length_singleton]; omega
    repeat (first | with_reducible refine nn ?_ | with_reducible refine let_ ?_ | with_reducible refine brSome ?_ | with_reducible refine brF ?_ | with_reducible refine brT ?_ | ((with_reducible apply ldAt H 0); exact rfl; exact rfl) | ((with_reducible apply ldAt0 H 0); exact rfl; exact rfl) | ((with_reducible apply stAt H 0); exact rfl; exact rfl; intro h H) | ((with_reducible apply stAt0 H 0); exact rfl; exact rfl; intro h H) | ((with_reducible refine ⟨?_, ?_⟩); first | ((with_reducible apply ldAt H 0); exact rfl; exact rfl; exact rfl) | ((with_reducible apply ldAt0 H 0); exact rfl; exact rfl; exact rfl)))
    refine cut_raw TCE 0 (loE E t) sE.c lo0 (hii rfl) (.inl ⟨rfl, rfl⟩) (Nat.zero_le _) (by omega) (Nat.le_refl _) ?_
    repeat (first | with_reducible refine nn ?_ | with_reducible refine let_ ?_ | with_reducible refine brSome ?_ | with_reducible refine brF ?_ | with_reducible refine brT ?_ | ((with_reducible apply ldAt H 0); exact rfl; exact rfl) | ((with_reducible apply ldAt0 H 0); exact rfl; exact rfl) | ((with_reducible apply stAt H 0); exact rfl; exact rfl; intro h H) | ((with_reducible apply stAt0 H 0); exact rfl; exact rfl; intro h H) | ((with_reducible refine ⟨?_, ?_⟩); first | ((with_reducible apply ldAt H 0); exact rfl; exact rfl; exact rfl) | ((with_reducible apply ldAt0 H 0); exact rfl; exact rfl; exact rfl)))
    refine cut_raw TCE (loE E t) sE.n sE.c (loi rfl) (hi0 _) (.inl ⟨rfl, rfl⟩) (by omega) hcc (Nat.le_refl _) ?_
    have nil_ : ∀ {h' : Heap} {M : List Res} {c : Nat} {tc : TypeId}, At h0 h' (.blk c tc [] :: M) → At h0 h' (.own ⟨some ⟨c, 0, none⟩, 0, 0⟩ 2 (eCE.fl []) :: M) := fun {h' M c tc} H => H.as_ 0 rfl (.own ⟨some ⟨c, 0, none⟩, 0, 0⟩ 2 (eCE.fl [])) (Own.full (H.get 0 rfl : Blk h' c _ []) (sz := 2) (n := 0) rfl (by decide)) (fun g hg => by have hg : some c = some g := hg; injection hg with hg; exact hg.symm)
    have rdA : ∀ {h' : Heap} {M : List Res} (j : Nat), At h0 h' M → M[j]? = some (.own sE 2 (eCE.fl E)) → RdS h' 2 (cutSl sE 2 0 (loE E t) sE.c) (eCE.fl (E.take (loE E t))) := fun j H hj => by
      have := rd_cut TCE (H.rdo j hj) 0 (loE E t) sE.c (Nat.zero_le _) (by omega) (by omega)
      rwa [Nat.zero_mul, List.drop_zero, Nat.sub_zero, eCE.fl_take] at this
    have rdB : ∀ {h' : Heap} {M : List Res} (j : Nat), At h0 h' M → M[j]? = some (.own sE 2 (eCE.fl E)) → RdS h' 2 (cutSl sE 2 (loE E t) sE.n sE.c) (eCE.fl (E.drop (loE E t))) := fun j H hj => by
      have := rd_cut TCE (H.rdo j hj) (loE E t) sE.n sE.c (by omega) (Nat.le_refl _) (H.own j hj).2.1
      rwa [eCE.fl_drop, eCE.fl_take, List.take_of_length_le (by rw [List.length_drop]; omega)] at this
    have hl1 : (E.take (loE E t)).length ≤ E.length := by rw [List.length_take]; exact Nat.min_le_right ..
    have hl2 : (E.drop (loE E t)).length ≤ E.length := by rw [List.length_drop]; omega
    have fin : ∀ (s_ : Sl) (h' : Heap), At h0 h' (.own s_ 2 (eCE.fl (putE E f t)) :: (ref6 d ty s sN sE sH sF sV C E Hd ++ G)) → Nn (some (⟨d, 0, none⟩ : Addr)) fun p => St h' (p.add 2) (.slice s_.a s_.n s_.c) fun h2 => R 0 h2 := fun s_ h' H => by
      repeat (first | with_reducible refine nn ?_ | with_reducible refine let_ ?_ | with_reducible refine brSome ?_ | with_reducible refine brF ?_ | with_reducible refine brT ?_ | ((with_reducible apply ldAt H 0); exact rfl; exact rfl) | ((with_reducible apply ldAt0 H 0); exact rfl; exact rfl) | ((with_reducible apply ldAt H 1); exact rfl; exact rfl) | ((with_reducible apply ldAt0 H 1); exact rfl; exact rfl) | ((with_reducible apply stAt H 0); exact rfl; exact rfl; intro h H) | ((with_reducible apply stAt0 H 0); exact rfl; exact rfl; intro h H) | ((with_reducible apply stAt H 1); exact rfl; exact rfl; intro h H) | ((with_reducible apply stAt0 H 1); exact rfl; exact rfl; intro h H) | ((with_reducible refine ⟨?_, ?_⟩); first | ((with_reducible apply ldAt H 0); exact rfl; exact rfl; exact rfl) | ((with_reducible apply ldAt0 H 0); exact rfl; exact rfl; exact rfl) | ((with_reducible apply ldAt H 1); exact rfl; exact rfl; exact rfl) | ((with_reducible apply ldAt0 H 1); exact rfl; exact rfl; exact rfl)))
      have H := (H.del 3).mv 1 2
      have H : At h0 h (ref6 d ty s sN s_ sH sF sV C (putE E f t) Hd ++ G) := H
      refine hR _ s_ _ ?_ (hRk hft hft2.1 hft2.2 hno2) (by omega)
      have e := eRN_to C.N f fun n => insI n.to t
      unfold ref6 at H ⊢
      rw [← e] at H
      exact H
    refine ⟨?_, ?_⟩
    · refine allocAt (cs := []) H fun h c0_ H => ?_
      repeat (first | with_reducible refine nn ?_ | with_reducible refine let_ ?_ | with_reducible refine brSome ?_ | with_reducible refine brF ?_ | with_reducible refine brT ?_ | ((with_reducible apply ldAt H 1); exact rfl; exact rfl) | ((with_reducible apply ldAt0 H 1); exact rfl; exact rfl) | ((with_reducible apply stAt H 1); exact rfl; exact rfl; intro h H) | ((with_reducible apply stAt0 H 1); exact rfl; exact rfl; intro h H) | ((with_reducible refine ⟨?_, ?_⟩); first | ((with_reducible apply ldAt H 1); exact rfl; exact rfl; exact rfl) | ((with_reducible apply ldAt0 H 1); exact rfl; exact rfl; exact rfl)))
      refine ⟨?_, ?_⟩
      · have H := nil_ H
        refine appAt (ys := E.take (loE E t)) TCE H 0 rfl (rdA 3 H rfl) (by simp; omega) (by simp; omega) fun s_ h H => ?_
        rw [List.nil_append] at H
        repeat (first | with_reducible refine nn ?_ | with_reducible refine let_ ?_ | with_reducible refine brSome ?_ | with_reducible refine brF ?_ | with_reducible refine brT ?_ | ((with_reducible apply ldAt H 1); exact rfl; exact rfl) | ((with_reducible apply ldAt0 H 1); exact rfl; exact rfl) | ((with_reducible apply stAt H 1); exact rfl; exact rfl; intro h H) | ((with_reducible apply stAt0 H 1); exact rfl; exact rfl; intro h H) | ((with_reducible refine ⟨?_, ?_⟩); first | ((with_reducible apply ldAt H 1); exact rfl; exact rfl; exact rfl) | ((with_reducible apply ldAt0 H 1); exact rfl; exact rfl; exact rfl)))
        refine allocAt (cs := eCE.cells ⟨f, t⟩) H fun h c_ H => ?_
        repeat (first | with_reducible refine nn ?_ | with_reducible refine let_ ?_ | with_reducible refine brSome ?_ | with_reducible refine brF ?_ | with_reducible refine brT ?_ | ((with_reducible apply ldAt H 2); exact rfl; exact rfl) | ((with_reducible apply ldAt0 H 2); exact rfl; exact rfl) | ((with_reducible apply stAt H 2); exact rfl; exact rfl; intro h H) | ((with_reducible apply stAt0 H 2); exact rfl; exact rfl; intro h H) | ((with_reducible refine ⟨?_, ?_⟩); first | ((with_reducible apply ldAt H 2); exact rfl; exact rfl; exact rfl) | ((with_reducible apply ldAt0 H 2); exact rfl; exact rfl; exact rfl)))
        refine app1B (E := eCE) TCE H 1 rfl 0 rfl ⟨f, t⟩ rfl (by simp; omega) (by simp; omega) fun s_ h H => ?_
        repeat (first | with_reducible refine nn ?_ | with_reducible refine let_ ?_ | with_reducible refine brSome ?_ | with_reducible refine brF ?_ | with_reducible refine brT ?_ | ((with_reducible apply ldAt H 2); exact rfl; exact rfl) | ((with_reducible apply ldAt0 H 2); exact rfl; exact rfl) | ((with_reducible apply stAt H 2); exact rfl; exact rfl; intro h H) | ((with_reducible apply stAt0 H 2); exact rfl; exact rfl; intro h H) | ((with_reducible refine ⟨?_, ?_⟩); first | ((with_reducible apply ldAt H 2); exact rfl; exact rfl; exact rfl) | ((with_reducible apply ldAt0 H 2); exact rfl; exact rfl; exact rfl)))
        refine appAt (ys := E.drop (loE E t)) TCE H 1 rfl (rdB 4 H rfl) (by simp; omega) (by simp; omega) fun s_ h H => ?_
        exact fin _ _ (H.tail)
      · refine allocAt (cs := eCE.cells ⟨f, t⟩) H fun h c_ H => ?_
        repeat (first | with_reducible refine nn ?_ | with_reducible refine let_ ?_ | with_reducible refine brSome ?_ | with_reducible refine brF ?_ | with_reducible refine brT ?_ | ((with_reducible apply ldAt H 2); exact rfl; exact rfl) | ((with_reducible apply ldAt0 H 2); exact rfl; exact rfl) | ((with_reducible apply stAt H 2); exact rfl; exact rfl; intro h H) | ((with_reducible apply stAt0 H 2); exact rfl; exact rfl; intro h H) | ((with_reducible refine ⟨?_, ?_⟩); first | ((with_reducible apply ldAt H 2); exact rfl; exact rfl; exact rfl) | ((with_reducible apply ldAt0 H 2); exact rfl; exact rfl; exact rfl)))
        have H := nil_ (H.mv 1 1)
        refine appAt (ys := E.take (loE E t)) TCE H 0 rfl (rdA 4 H rfl) (by simp; omega) (by simp; omega) fun s_ h H => ?_
        rw [List.nil_append] at H
        repeat (first | with_reducible refine nn ?_ | with_reducible refine let_ ?_ | with_reducible refine brSome ?_ | with_reducible refine brF ?_ | with_reducible refine brT ?_ | ((with_reducible apply ldAt H 2); exact rfl; exact rfl) | ((with_reducible apply ldAt0 H 2); exact rfl; exact rfl) | ((with_reducible apply stAt H 2); exact rfl; exact rfl; intro h H) | ((with_reducible apply stAt0 H 2); exact rfl; exact rfl; intro h H) | ((with_reducible refine ⟨?_, ?_⟩); first | ((with_reducible apply ldAt H 2); exact rfl; exact rfl; exact rfl) | ((with_reducible apply ldAt0 H 2); exact rfl; exact rfl; exact rfl)))
        refine app1B (E := eCE) TCE H 0 rfl 1 rfl ⟨f, t⟩ rfl (by simp; omega) (by simp; omega) fun s_ h H => ?_
        repeat (first | with_reducible refine nn ?_ | with_reducible refine let_ ?_ | with_reducible refine brSome ?_ | with_reducible refine brF ?_ | with_reducible refine brT ?_ | ((with_reducible apply ldAt H 2); exact rfl; exact rfl) | ((with_reducible apply ldAt0 H 2); exact rfl; exact rfl) | ((with_reducible apply stAt H 2); exact rfl; exact rfl; intro h H) | ((with_reducible apply stAt0 H 2); exact rfl; exact rfl; intro h H) | ((with_reducible refine ⟨?_, ?_⟩); first | ((with_reducible apply ldAt H 2); exact rfl; exact rfl; exact rfl) | ((with_reducible apply ldAt0 H 2); exact rfl; exact rfl; exact rfl)))
        refine appAt (ys := E.drop (loE E t)) TCE H 0 rfl (rdB 4 H rfl) (by simp; omega) (by simp; omega) fun s_ h H => ?_
        exact fin _ _ (H.del 1)
    · refine allocAt (cs := eCE.cells ⟨f, t⟩) H fun h c_ H => ?_
      repeat (first | with_reducible refine nn ?_ | with_reducible refine let_ ?_ | with_reducible refine brSome ?_ | with_reducible refine brF ?_ | with_reducible refine brT ?_ | ((with_reducible apply ldAt H 1); exact rfl; exact rfl) | ((with_reducible apply ldAt0 H 1); exact rfl; exact rfl) | ((with_reducible apply stAt H 1); exact rfl; exact rfl; intro h H) | ((with_reducible apply stAt0 H 1); exact rfl; exact rfl; intro h H) | ((with_reducible refine ⟨?_, ?_⟩); first | ((with_reducible apply ldAt H 1); exact rfl; exact rfl; exact rfl) | ((with_reducible apply ldAt0 H 1); exact rfl; exact rfl; exact rfl)))
      refine allocAt (cs := []) H fun h c0_ H => ?_
      repeat (first | with_reducible refine nn ?_ | with_reducible refine let_ ?_ | with_reducible refine brSome ?_ | with_reducible refine brF ?_ | with_reducible refine brT ?_ | ((with_reducible apply ldAt H 2); exact rfl; exact rfl) | ((with_reducible apply ldAt0 H 2); exact rfl; exact rfl) | ((with_reducible apply stAt H 2); exact rfl; exact rfl; intro h H) | ((with_reducible apply stAt0 H 2); exact rfl; exact rfl; intro h H) | ((with_reducible refine ⟨?_, ?_⟩); first | ((with_reducible apply ldAt H 2); exact rfl; exact rfl; exact rfl) | ((with_reducible apply ldAt0 H 2); exact rfl; exact rfl; exact rfl)))
      have H := nil_ H
      refine appAt (ys := E.take (loE E t)) TCE H 0 rfl (rdA 4 H rfl) (by simp; omega) (by simp; omega) fun s_ h H => ?_
      rw [List.nil_append] at H
      repeat (first | with_reducible refine nn ?_ | with_reducible refine let_ ?_ | with_reducible refine brSome ?_ | with_reducible refine brF ?_ | with_reducible refine brT ?_ | ((with_reducible apply ldAt H 2); exact rfl; exact rfl) | ((with_reducible apply ldAt0 H 2); exact rfl; exact rfl) | ((with_reducible apply stAt H 2); exact rfl; exact rfl; intro h H) | ((with_reducible apply stAt0 H 2); exact rfl; exact rfl; intro h H) | ((with_reducible refine ⟨?_, ?_⟩); first | ((with_reducible apply ldAt H 2); exact rfl; exact rfl; exact rfl) | ((with_reducible apply ldAt0 H 2); exact rfl; exact rfl; exact rfl)))
      refine app1B (E := eCE) TCE H 0 rfl 1 rfl ⟨f, t⟩ rfl (by simp; omega) (by simp; omega) fun s_ h H => ?_
      repeat (first | with_reducible refine nn ?_ | with_reducible refine let_ ?_ | with_reducible refine brSome ?_ | with_reducible refine brF ?_ | with_reducible refine brT ?_ | ((with_reducible apply ldAt H 2); exact rfl; exact rfl) | ((with_reducible apply ldAt0 H 2); exact rfl; exact rfl) | ((with_reducible apply stAt H 2); exact rfl; exact rfl; intro h H) | ((with_reducible apply stAt0 H 2); exact rfl; exact rfl; intro h H) | ((with_reducible refine ⟨?_, ?_⟩); first | ((with_reducible apply ldAt H 2); exact rfl; exact rfl; exact rfl) | ((with_reducible apply ldAt0 H 2); exact rfl; exact rfl; exact rfl)))
      refine appAt (ys := E.drop (loE E t)) TCE H 0 rfl (rdB 4 H rfl) (by simp; omega) (by simp; omega) fun s_ h H => ?_
      exact fin _ _ (H.del 1)
/-- Whether a probe goes on, and that it does. -/
def sendT (f : Option Addr) (p1 e1 y : Addr) (go : Heap → Prop) (h_10 : Heap) : Prop :=
  Join [.one .bool] (fun _ (x57 : Bool) h_11 =>
    (bif x57 then
      Nn f fun p4 =>
      Ld .sl h_11 (p4.add 4) fun (Flight : Sl) =>
      Ld (.int .i64) h_11 p1 fun (Start : Int) =>
      Ld (.int .i64) h_11 (p1.add 1) fun (Stamp : Int) =>
      Ld (.int .i64) h_11 (p1.add 2) fun (Round : Int) =>
      Ld (.int .i64) h_11 (e1.add 1) fun (To2 : Int) =>
      Alloc h_11 (.cells #[.int .i64 Start, .int .i64 Stamp, .int .i64 Round, .int .i64 To2] 37) fun b h_12 =>
      (Ld .sl h_12 (p4.add 4) fun (Flight1 : Sl) => (.slice Flight1.a Flight1.n Flight1.c : Value) = .slice Flight.a Flight.n Flight.c) ∧
      App Try.prog 34 34 Flight ⟨some b, 1, 1⟩ h_12 fun s h_13 =>
      Nn f fun p5 =>
      St h_13 (p5.add 4) (.slice s.a s.n s.c) fun h_14 =>
      go h_14
    else
      go h_11
    )
    ) fun J =>
  Ld (.int .i64) h_10 (e1.add 1) fun (To3 : Int) =>
  Ld (.int .i64) h_10 p1 fun (Start1 : Int) =>
  (bif To3 == Start1 then
    J true h_10
  else
    Ld (.int .i64) h_10 (y.add 1) fun (Stamp1 : Int) =>
    Ld (.int .i64) h_10 (p1.add 1) fun (Stamp2 : Int) =>
    (bif decide (Stamp1 < Stamp2) then
      J true h_10
    else
      Ld (.int .i64) h_10 (y.add 1) fun (Stamp3 : Int) =>
      Ld (.int .i64) h_10 (p1.add 1) fun (Stamp4 : Int) =>
      (bif Stamp3 == Stamp4 then
        Ld (.int .i64) h_10 y fun (ID : Int) =>
        Ld (.int .i64) h_10 p1 fun (Start2 : Int) =>
        J (decide (ID < Start2)) h_10
      else
        J false h_10
      )
    )
  )
theorem sendT_ok {b1 b2 b3 : Nat} {t1 t2 t3 : TypeId} {p : CP} {fr t : Int} {n : CN} {go : Heap → Prop} (hn : nd C.N t = n) (hnt : n.id = t) (hfl : C.fl.length ≤ 1000000)
    (H : At h0 h (ref6 d ty s sN sE sH sF sV C E Hd ++ (.blk b3 t3 (eRN.cells n) :: .blk b2 t2 [.int .i64 fr, .int .i64 t] :: .blk b1 t1 [.int .i64 p.start, .int .i64 p.stamp, .int .i64 p.round, .int .i64 p.at_] :: G)))
    (hgo : ∀ h' sF', At h0 h' (ref6 d ty s sN sE sH sF' sV { C with fl := C.fl ++ if okTo C.N p t then [{ p with at_ := t }] else [] } E Hd ++ (.blk b1 t1 [.int .i64 p.start, .int .i64 p.stamp, .int .i64 p.round, .int .i64 p.at_] :: G)) → go h') :
    sendT (some ⟨d, 0, none⟩) ⟨b1, 0, none⟩ ⟨b2, 0, none⟩ ⟨b3, 0, none⟩ go h := by
  unfold sendT
  refine join1 (s1 := .one .bool) (fun (b : Bool) h3 => (b = true ↔ okTo C.N p t) ∧ h3 = h) (fun _ (b : Bool) h3 hJ => ?_) ?_
  · obtain ⟨hb, rfl⟩ := hJ
    refine brB (fun hbt => ?_) fun hbf => ?_
    · rw [if_pos (hb.1 hbt)] at hgo
      repeat (first | with_reducible refine nn ?_ | with_reducible refine let_ ?_ | with_reducible refine brSome ?_ | with_reducible refine brF ?_ | with_reducible refine brT ?_ | ((with_reducible apply ldAt H 0); exact rfl; exact rfl) | ((with_reducible apply ldAt0 H 0); exact rfl; exact rfl) | ((with_reducible apply ldAt H 7); exact rfl; exact rfl) | ((with_reducible apply ldAt0 H 7); exact rfl; exact rfl) | ((with_reducible apply ldAt H 8); exact rfl; exact rfl) | ((with_reducible apply ldAt0 H 8); exact rfl; exact rfl) | ((with_reducible apply stAt H 0); exact rfl; exact rfl; intro h H) | ((with_reducible apply stAt0 H 0); exact rfl; exact rfl; intro h H) | ((with_reducible apply stAt H 7); exact rfl; exact rfl; intro h H) | ((with_reducible apply stAt0 H 7); exact rfl; exact rfl; intro h H) | ((with_reducible apply stAt H 8); exact rfl; exact rfl; intro h H) | ((with_reducible apply stAt0 H 8); exact rfl; exact rfl; intro h H) | ((with_reducible refine ⟨?_, ?_⟩); first | ((with_reducible apply ldAt H 0); exact rfl; exact rfl; exact rfl) | ((with_reducible apply ldAt0 H 0); exact rfl; exact rfl; exact rfl) | ((with_reducible apply ldAt H 7); exact rfl; exact rfl; exact rfl) | ((with_reducible apply ldAt0 H 7); exact rfl; exact rfl; exact rfl) | ((with_reducible apply ldAt H 8); exact rfl; exact rfl; exact rfl) | ((with_reducible apply ldAt0 H 8); exact rfl; exact rfl; exact rfl)))
      refine allocAt (cs := [.int .i64 p.start, .int .i64 p.stamp, .int .i64 p.round, .int .i64 t]) H fun h b4 H => ?_
      repeat (first | with_reducible refine nn ?_ | with_reducible refine let_ ?_ | with_reducible refine brSome ?_ | with_reducible refine brF ?_ | with_reducible refine brT ?_ | ((with_reducible apply ldAt H 1); exact rfl; exact rfl) | ((with_reducible apply ldAt0 H 1); exact rfl; exact rfl) | ((with_reducible apply stAt H 1); exact rfl; exact rfl; intro h H) | ((with_reducible apply stAt0 H 1); exact rfl; exact rfl; intro h H) | ((with_reducible refine ⟨?_, ?_⟩); first | ((with_reducible apply ldAt H 1); exact rfl; exact rfl; exact rfl) | ((with_reducible apply ldAt0 H 1); exact rfl; exact rfl; exact rfl)))
      refine app1B (E := eCP) TCP H 5 rfl 0 rfl { p with at_ := t } rfl (by omega) (by omega) fun s3 h H => ?_
      repeat (first | with_reducible refine nn ?_ | with_reducible refine let_ ?_ | with_reducible refine brSome ?_ | with_reducible refine brF ?_ | with_reducible refine brT ?_ | ((with_reducible apply ldAt H 1); exact rfl; exact rfl) | ((with_reducible apply ldAt0 H 1); exact rfl; exact rfl) | ((with_reducible apply stAt H 1); exact rfl; exact rfl; intro h H) | ((with_reducible apply stAt0 H 1); exact rfl; exact rfl; intro h H) | ((with_reducible refine ⟨?_, ?_⟩); first | ((with_reducible apply ldAt H 1); exact rfl; exact rfl; exact rfl) | ((with_reducible apply ldAt0 H 1); exact rfl; exact rfl; exact rfl)))
      exact hgo _ s3 ((H.tail.del 6).del 6)
    · rw [if_neg (fun x => by rw [hb.2 x] at hbf; exact nomatch hbf), List.append_nil] at hgo
      exact hgo _ _ ((H.del 6).del 6)
  · unfold okTo
    rw [hn]
    repeat (first | with_reducible refine nn ?_ | with_reducible refine let_ ?_ | with_reducible refine brSome ?_ | with_reducible refine brF ?_ | with_reducible refine brT ?_ | ((with_reducible apply ldAt H 0); exact rfl; exact rfl) | ((with_reducible apply ldAt0 H 0); exact rfl; exact rfl) | ((with_reducible apply ldAt H 7); exact rfl; exact rfl) | ((with_reducible apply ldAt0 H 7); exact rfl; exact rfl) | ((with_reducible apply ldAt H 8); exact rfl; exact rfl) | ((with_reducible apply ldAt0 H 8); exact rfl; exact rfl) | ((with_reducible apply stAt H 0); exact rfl; exact rfl; intro h H) | ((with_reducible apply stAt0 H 0); exact rfl; exact rfl; intro h H) | ((with_reducible apply stAt H 7); exact rfl; exact rfl; intro h H) | ((with_reducible apply stAt0 H 7); exact rfl; exact rfl; intro h H) | ((with_reducible apply stAt H 8); exact rfl; exact rfl; intro h H) | ((with_reducible apply stAt0 H 8); exact rfl; exact rfl; intro h H) | ((with_reducible refine ⟨?_, ?_⟩); first | ((with_reducible apply ldAt H 0); exact rfl; exact rfl; exact rfl) | ((with_reducible apply ldAt0 H 0); exact rfl; exact rfl; exact rfl) | ((with_reducible apply ldAt H 7); exact rfl; exact rfl; exact rfl) | ((with_reducible apply ldAt0 H 7); exact rfl; exact rfl; exact rfl) | ((with_reducible apply ldAt H 8); exact rfl; exact rfl; exact rfl) | ((with_reducible apply ldAt0 H 8); exact rfl; exact rfl; exact rfl)))
    refine br beq_iff_eq (fun h1 => ⟨⟨fun _ => .inl h1, fun _ => rfl⟩, rfl⟩) fun h1 => ?_
    refine ldAt (j := 1) H 6 rfl n.stamp rfl ?_
    repeat (first | with_reducible refine nn ?_ | with_reducible refine let_ ?_ | with_reducible refine brSome ?_ | with_reducible refine brF ?_ | with_reducible refine brT ?_ | ((with_reducible apply ldAt H 8); exact rfl; exact rfl) | ((with_reducible apply ldAt0 H 8); exact rfl; exact rfl) | ((with_reducible apply stAt H 8); exact rfl; exact rfl; intro h H) | ((with_reducible apply stAt0 H 8); exact rfl; exact rfl; intro h H) | ((with_reducible refine ⟨?_, ?_⟩); first | ((with_reducible apply ldAt H 8); exact rfl; exact rfl; exact rfl) | ((with_reducible apply ldAt0 H 8); exact rfl; exact rfl; exact rfl)))
    refine brD (fun h4 => ⟨⟨fun _ => .inr (.inl h4), fun _ => rfl⟩, rfl⟩) fun h4 => ?_
    refine ldAt (j := 1) H 6 rfl n.stamp rfl ?_
    repeat (first | with_reducible refine nn ?_ | with_reducible refine let_ ?_ | with_reducible refine brSome ?_ | with_reducible refine brF ?_ | with_reducible refine brT ?_ | ((with_reducible apply ldAt H 8); exact rfl; exact rfl) | ((with_reducible apply ldAt0 H 8); exact rfl; exact rfl) | ((with_reducible apply stAt H 8); exact rfl; exact rfl; intro h H) | ((with_reducible apply stAt0 H 8); exact rfl; exact rfl; intro h H) | ((with_reducible refine ⟨?_, ?_⟩); first | ((with_reducible apply ldAt H 8); exact rfl; exact rfl; exact rfl) | ((with_reducible apply ldAt0 H 8); exact rfl; exact rfl; exact rfl)))
    refine br beq_iff_eq (fun h5 => ?_) fun h5 => ⟨⟨fun x => (by cases x), fun x => by omega⟩, rfl⟩
    refine ldAt0 H 6 rfl n.id rfl ?_
    repeat (first | with_reducible refine nn ?_ | with_reducible refine let_ ?_ | with_reducible refine brSome ?_ | with_reducible refine brF ?_ | with_reducible refine brT ?_ | ((with_reducible apply ldAt H 8); exact rfl; exact rfl) | ((with_reducible apply ldAt0 H 8); exact rfl; exact rfl) | ((with_reducible apply stAt H 8); exact rfl; exact rfl; intro h H) | ((with_reducible apply stAt0 H 8); exact rfl; exact rfl; intro h H) | ((with_reducible refine ⟨?_, ?_⟩); first | ((with_reducible apply ldAt H 8); exact rfl; exact rfl; exact rfl) | ((with_reducible apply ldAt0 H 8); exact rfl; exact rfl; exact rfl)))
    refine ⟨?_, rfl⟩
    rw [decide_eq_true_iff, hnt]
    exact ⟨fun x => .inr (.inr ⟨h5, x⟩), fun x => by omega⟩
set_option maxHeartbeats 1600000 in
theorem ref14_send_ok {x : Int} {p : CP} {R : Heap → Prop} (H : At h0 h (ref6 d ty s sN sE sH sF sV C E Hd ++ G)) (ho : COk s N C) (hr : RelK C E Hd) (hx : hasN C.N x) (hEl : E.length ≤ 100000) (hfl : C.fl.length ≤ 900000)
    (hR : ∀ h' sF', At h0 h' (ref6 d ty s sN sE sH sF' sV (kSend C (nd C.N x).to p) E Hd ++ G) → R h') : C_ref14_Field_send (some ⟨d, 0, none⟩) x (p.start, p.stamp, p.round, p.at_, ()) h R := by
  refine A_ref14_Field_send ?_
  unfold S_ref14_Field_send
  have hl64 := ho.len
  have hnn := H.n 2 rfl
  obtain ⟨hn1, hn2⟩ := nd_mem hx
  have hout := hr.out _ hn1
  rw [hn2] at hout
  have hto64 := ho.ndlen x
  refine allocAt (cs := [.int .i64 p.start, .int .i64 p.stamp, .int .i64 p.round, .int .i64 p.at_]) H fun h1 b1 H => ?_
  have H := H.mv 1 6
  repeat (first | with_reducible refine nn ?_ | with_reducible refine let_ ?_ | with_reducible refine brSome ?_ | with_reducible refine brF ?_ | with_reducible refine brT ?_ | ((with_reducible apply ldAt H 0); exact rfl; exact rfl) | ((with_reducible apply ldAt0 H 0); exact rfl; exact rfl) | ((with_reducible apply stAt H 0); exact rfl; exact rfl; intro h H) | ((with_reducible apply stAt0 H 0); exact rfl; exact rfl; intro h H) | ((with_reducible refine ⟨?_, ?_⟩); first | ((with_reducible apply ldAt H 0); exact rfl; exact rfl; exact rfl) | ((with_reducible apply ldAt0 H 0); exact rfl; exact rfl; exact rfl)))
  have hpre : ∀ i, (outsE (E.take i) x).length ≤ 64 := fun i => by
    have : outsE (E.take i) x ++ outsE (E.drop i) x = (nd C.N x).to := by rw [← outsE_app, List.take_append_drop]; exact hout
    rw [← this, List.length_append] at hto64
    omega
  refine loop1 (s1 := .one (.int .i64)) (fun (y : Int) h2 => ∃ (i : Nat) (sF' : Sl), y = i ∧ i ≤ E.length ∧ At h0 h2 (ref6 d ty s sN sE sH sF' sV (kSend C (outsE (E.take i) x) p) E Hd ++ (.blk b1 37 [.int .i64 p.start, .int .i64 p.stamp, .int .i64 p.round, .int .i64 p.at_] :: G))) (fun (y : Int) _ => (E.length - y).toNat)
    ⟨0, sF, rfl, Nat.zero_le _, by rw [List.take_zero, show kSend C (outsE [] x) p = { C with fl := C.fl ++ [] } from rfl, List.append_nil]; exact H⟩ fun _ (y : Int) h2 hI => ?_
  obtain ⟨i, sF', rfl, hi, H⟩ := hI
  refine brD (fun hc => ?_) fun hc => ?_
  · have hi2 : i < E.length := by omega
    refine ixAt H 2 rfl i rfl hi2 fun e he => ?_
    repeat (first | with_reducible refine nn ?_ | with_reducible refine let_ ?_ | with_reducible refine brSome ?_ | with_reducible refine brF ?_ | with_reducible refine brT ?_ | ((with_reducible apply ldAt H 0); exact rfl; exact rfl) | ((with_reducible apply ldAt0 H 0); exact rfl; exact rfl) | ((with_reducible apply ldAt H 1); exact rfl; exact rfl) | ((with_reducible apply ldAt0 H 1); exact rfl; exact rfl) | ((with_reducible apply ldAt H 2); exact rfl; exact rfl) | ((with_reducible apply ldAt0 H 2); exact rfl; exact rfl) | ((with_reducible apply ldEl H 0); exact rfl; assumption; (case hk => assumption); exact rfl) | ((with_reducible apply ldEl0 H 0); exact rfl; assumption; (case hk => assumption); exact rfl) | ((with_reducible apply ldElS H 0); exact rfl; assumption; (case hk => assumption); exact rfl) | ((with_reducible apply ldElS0 H 0); exact rfl; assumption; (case hk => assumption); exact rfl) | ((with_reducible apply ldEl H 1); exact rfl; assumption; (case hk => assumption); exact rfl) | ((with_reducible apply ldEl0 H 1); exact rfl; assumption; (case hk => assumption); exact rfl) | ((with_reducible apply ldElS H 1); exact rfl; assumption; (case hk => assumption); exact rfl) | ((with_reducible apply ldElS0 H 1); exact rfl; assumption; (case hk => assumption); exact rfl) | ((with_reducible apply ldEl H 2); exact rfl; assumption; (case hk => assumption); exact rfl) | ((with_reducible apply ldEl0 H 2); exact rfl; assumption; (case hk => assumption); exact rfl) | ((with_reducible apply ldElS H 2); exact rfl; assumption; (case hk => assumption); exact rfl) | ((with_reducible apply ldElS0 H 2); exact rfl; assumption; (case hk => assumption); exact rfl) | ((with_reducible apply stAt H 0); exact rfl; exact rfl; intro h H) | ((with_reducible apply stAt0 H 0); exact rfl; exact rfl; intro h H) | ((with_reducible apply stAt H 1); exact rfl; exact rfl; intro h H) | ((with_reducible apply stAt0 H 1); exact rfl; exact rfl; intro h H) | ((with_reducible apply stAt H 2); exact rfl; exact rfl; intro h H) | ((with_reducible apply stAt0 H 2); exact rfl; exact rfl; intro h H) | ((with_reducible apply stElS (E := eCE) ⟨_, _⟩ H 0); exact rfl; assumption; (case hk => assumption); exact rfl; (first | exact rfl | (dsimp only [eCE, List.set_cons_succ, List.set_cons_zero] <;> exact rfl)); intro h H) | ((with_reducible apply stElS0 (E := eCE) ⟨_, _⟩ H 0); exact rfl; assumption; (case hk => assumption); (first | exact rfl | (dsimp only [eCE, List.set_cons_succ, List.set_cons_zero] <;> exact rfl)); intro h H) | ((with_reducible apply stEl (E := eCE) ⟨_, _⟩ H 0); exact rfl; assumption; (case hk => assumption); exact rfl; (first | exact rfl | (dsimp only [eCE, List.set_cons_succ, List.set_cons_zero] <;> exact rfl)); intro h H) | ((with_reducible apply stEl0 (E := eCE) ⟨_, _⟩ H 0); exact rfl; assumption; (case hk => assumption); (first | exact rfl | (dsimp only [eCE, List.set_cons_succ, List.set_cons_zero] <;> exact rfl)); intro h H) | ((with_reducible apply stElS (E := eCE) ⟨_, _⟩ H 1); exact rfl; assumption; (case hk => assumption); exact rfl; (first | exact rfl | (dsimp only [eCE, List.set_cons_succ, List.set_cons_zero] <;> exact rfl)); intro h H) | ((with_reducible apply stElS0 (E := eCE) ⟨_, _⟩ H 1); exact rfl; assumption; (case hk => assumption); (first | exact rfl | (dsimp only [eCE, List.set_cons_succ, List.set_cons_zero] <;> exact rfl)); intro h H) | ((with_reducible apply stEl (E := eCE) ⟨_, _⟩ H 1); exact rfl; assumption; (case hk => assumption); exact rfl; (first | exact rfl | (dsimp only [eCE, List.set_cons_succ, List.set_cons_zero] <;> exact rfl)); intro h H) | ((with_reducible apply stEl0 (E := eCE) ⟨_, _⟩ H 1); exact rfl; assumption; (case hk => assumption); (first | exact rfl | (dsimp only [eCE, List.set_cons_succ, List.set_cons_zero] <;> exact rfl)); intro h H) | ((with_reducible apply stElS (E := eCE) ⟨_, _⟩ H 2); exact rfl; assumption; (case hk => assumption); exact rfl; (first | exact rfl | (dsimp only [eCE, List.set_cons_succ, List.set_cons_zero] <;> exact rfl)); intro h H) | ((with_reducible apply stElS0 (E := eCE) ⟨_, _⟩ H 2); exact rfl; assumption; (case hk => assumption); (first | exact rfl | (dsimp only [eCE, List.set_cons_succ, List.set_cons_zero] <;> exact rfl)); intro h H) | ((with_reducible apply stEl (E := eCE) ⟨_, _⟩ H 2); exact rfl; assumption; (case hk => assumption); exact rfl; (first | exact rfl | (dsimp only [eCE, List.set_cons_succ, List.set_cons_zero] <;> exact rfl)); intro h H) | ((with_reducible apply stEl0 (E := eCE) ⟨_, _⟩ H 2); exact rfl; assumption; (case hk => assumption); (first | exact rfl | (dsimp only [eCE, List.set_cons_succ, List.set_cons_zero] <;> exact rfl)); intro h H) | ((with_reducible apply allocAt H); intro h b H) | ((with_reducible refine ⟨?_, ?_⟩); first | ((with_reducible apply ldAt H 0); exact rfl; exact rfl; exact rfl) | ((with_reducible apply ldAt0 H 0); exact rfl; exact rfl; exact rfl) | ((with_reducible apply ldAt H 1); exact rfl; exact rfl; exact rfl) | ((with_reducible apply ldAt0 H 1); exact rfl; exact rfl; exact rfl) | ((with_reducible apply ldAt H 2); exact rfl; exact rfl; exact rfl) | ((with_reducible apply ldAt0 H 2); exact rfl; exact rfl; exact rfl) | ((with_reducible apply ldEl H 0); exact rfl; assumption; (case hk => assumption); exact rfl; exact rfl) | ((with_reducible apply ldEl0 H 0); exact rfl; assumption; (case hk => assumption); exact rfl; exact rfl) | ((with_reducible apply ldElS H 0); exact rfl; assumption; (case hk => assumption); exact rfl; exact rfl) | ((with_reducible apply ldElS0 H 0); exact rfl; assumption; (case hk => assumption); exact rfl; exact rfl) | ((with_reducible apply ldEl H 1); exact rfl; assumption; (case hk => assumption); exact rfl; exact rfl) | ((with_reducible apply ldEl0 H 1); exact rfl; assumption; (case hk => assumption); exact rfl; exact rfl) | ((with_reducible apply ldElS H 1); exact rfl; assumption; (case hk => assumption); exact rfl; exact rfl) | ((with_reducible apply ldElS0 H 1); exact rfl; assumption; (case hk => assumption); exact rfl; exact rfl) | ((with_reducible apply ldEl H 2); exact rfl; assumption; (case hk => assumption); exact rfl; exact rfl) | ((with_reducible apply ldEl0 H 2); exact rfl; assumption; (case hk => assumption); exact rfl; exact rfl) | ((with_reducible apply ldElS H 2); exact rfl; assumption; (case hk => assumption); exact rfl; exact rfl) | ((with_reducible apply ldElS0 H 2); exact rfl; assumption; (case hk => assumption); exact rfl; exact rfl)))
    rename Nat => b2
    rw [w64 (by omega) (by omega)]
    have hsucc : outsE (E.take (i + 1)) x = outsE (E.take i) x ++ if E[i].from_ = x then [E[i].to] else [] := by
      rw [List.take_succ_eq_append_getElem hi2, outsE_app]
      congr 1
      unfold outsE
      by_cases h : E[i].from_ = x
      · rw [if_pos h, List.filter_cons_of_pos (by simpa using h)]; rfl
      · rw [if_neg h, List.filter_cons_of_neg (by simpa using h)]; rfl
    refine br bne_iff_ne (fun h6 => ?_) fun h6 => ?_
    · refine ⟨⟨i + 1, sF', by omega, by omega, ?_⟩, by omega⟩
      rw [hsucc, if_neg h6, List.append_nil]
      exact H.tail
    · have h6 : E[i].from_ = x := Decidable.not_not.1 h6
      have hto := (hr.ends _ (List.getElem_mem hi2)).2
      have hlen2 : (kSend C (outsE (E.take i) x) p).fl.length ≤ 1000000 := by
        have h7 := sent_len C.N (outsE (E.take i) x) p
        have h8 := hpre i
        show (C.fl ++ _).length ≤ _
        rw [List.length_append]; omega
      have hks : ∀ {h' : Heap} {sF'' : Sl}, At h0 h' (ref6 d ty s sN sE sH sF'' sV { kSend C (outsE (E.take i) x) p with fl := (kSend C (outsE (E.take i) x) p).fl ++ if okTo C.N p E[i].to then [{ p with at_ := E[i].to }] else [] } E Hd ++ (.blk b1 37 [.int .i64 p.start, .int .i64 p.stamp, .int .i64 p.round, .int .i64 p.at_] :: G)) →
          (∃ (i_1 : Nat) (sF' : Sl), (i : Int) + 1 = i_1 ∧ i_1 ≤ E.length ∧ At h0 h' (ref6 d ty s sN sE sH sF' sV (kSend C (outsE (E.take i_1) x) p) E Hd ++ (.blk b1 37 [.int .i64 p.start, .int .i64 p.stamp, .int .i64 p.round, .int .i64 p.at_] :: G))) ∧ ((E.length : Int) - ((i : Int) + 1)).toNat < ((E.length : Int) - (i : Int)).toNat := fun {h' sF''} H => by
        refine ⟨⟨i + 1, sF'', by omega, by omega, ?_⟩, by omega⟩
        have e : kSend C (outsE (E.take (i + 1)) x) p = { kSend C (outsE (E.take i) x) p with fl := (kSend C (outsE (E.take i) x) p).fl ++ if okTo C.N p E[i].to then [{ p with at_ := E[i].to }] else [] } := by
          unfold kSend sentL
          rw [hsucc, if_pos h6, List.filter_append, List.map_append, ← List.append_assoc]
          congr 2
          by_cases ho : okTo C.N p E[i].to
          · rw [if_pos ho, List.filter_cons_of_pos (by simpa using ho)]; rfl
          · rw [if_neg ho, List.filter_cons_of_neg (by simpa using ho)]; rfl
        rw [e]; exact H
      repeat (first | with_reducible refine nn ?_ | with_reducible refine let_ ?_ | with_reducible refine brSome ?_ | with_reducible refine brF ?_ | with_reducible refine brT ?_ | ((with_reducible apply ldAt H 1); exact rfl; exact rfl) | ((with_reducible apply ldAt0 H 1); exact rfl; exact rfl) | ((with_reducible apply stAt H 1); exact rfl; exact rfl; intro h H) | ((with_reducible apply stAt0 H 1); exact rfl; exact rfl; intro h H) | ((with_reducible refine ⟨?_, ?_⟩); first | ((with_reducible apply ldAt H 1); exact rfl; exact rfl; exact rfl) | ((with_reducible apply ldAt0 H 1); exact rfl; exact rfl; exact rfl)))
      refine ldAt (j := 1) H 0 rfl E[i].to rfl ?_
      have H : At h0 _ (.blk b2 30 [.int .i64 E[i].from_, .int .i64 E[i].to] :: (ref6 d ty s sN sE sH sF' sV (kSend C (outsE (E.take i) x) p) E Hd ++ (.blk b1 37 [.int .i64 p.start, .int .i64 p.stamp, .int .i64 p.round, .int .i64 p.at_] :: G))) := H
      have hndq : ∀ {q : Nat} (hq : q < C.N.length), C.N[q].id = E[i].to → nd C.N E[i].to = C.N[q] := fun hq e => by rw [← e]; exact nd_eq ho.uniq (List.getElem_mem hq)
      refine ⟨?_, ?_⟩
      · refine ref14_place_ok (C := kSend C (outsE (E.take i) x) p) (G := _ :: _) (H.mv 1 6) hl64 (fun hno => absurd hto hno) fun q hq hqi h3 H => ?_
        repeat (first | with_reducible refine nn ?_ | with_reducible refine let_ ?_ | with_reducible refine brSome ?_ | with_reducible refine brF ?_ | with_reducible refine brT ?_ | ((with_reducible apply ldAt H 0); exact rfl; exact rfl) | ((with_reducible apply ldAt0 H 0); exact rfl; exact rfl) | ((with_reducible apply stAt H 0); exact rfl; exact rfl; intro h H) | ((with_reducible apply stAt0 H 0); exact rfl; exact rfl; intro h H) | ((with_reducible refine ⟨?_, ?_⟩); first | ((with_reducible apply ldAt H 0); exact rfl; exact rfl; exact rfl) | ((with_reducible apply ldAt0 H 0); exact rfl; exact rfl; exact rfl)))
        refine ixAt H 1 rfl q rfl hq fun e2 he2 => ?_
        repeat (first | with_reducible refine nn ?_ | with_reducible refine let_ ?_ | with_reducible refine brSome ?_ | with_reducible refine brF ?_ | with_reducible refine brT ?_ | ((with_reducible apply ldAt H 0); exact rfl; exact rfl) | ((with_reducible apply ldAt0 H 0); exact rfl; exact rfl) | ((with_reducible apply ldAt H 1); exact rfl; exact rfl) | ((with_reducible apply ldAt0 H 1); exact rfl; exact rfl) | ((with_reducible apply ldEl H 0); exact rfl; assumption; (case hk => assumption); exact rfl) | ((with_reducible apply ldEl0 H 0); exact rfl; assumption; (case hk => assumption); exact rfl) | ((with_reducible apply ldElS H 0); exact rfl; assumption; (case hk => assumption); exact rfl) | ((with_reducible apply ldElS0 H 0); exact rfl; assumption; (case hk => assumption); exact rfl) | ((with_reducible apply ldEl H 1); exact rfl; assumption; (case hk => assumption); exact rfl) | ((with_reducible apply ldEl0 H 1); exact rfl; assumption; (case hk => assumption); exact rfl) | ((with_reducible apply ldElS H 1); exact rfl; assumption; (case hk => assumption); exact rfl) | ((with_reducible apply ldElS0 H 1); exact rfl; assumption; (case hk => assumption); exact rfl) | ((with_reducible apply stAt H 0); exact rfl; exact rfl; intro h H) | ((with_reducible apply stAt0 H 0); exact rfl; exact rfl; intro h H) | ((with_reducible apply stAt H 1); exact rfl; exact rfl; intro h H) | ((with_reducible apply stAt0 H 1); exact rfl; exact rfl; intro h H) | ((with_reducible apply stElS (E := eRN) ⟨_, _, _, _⟩ H 0); exact rfl; assumption; (case hk => assumption); exact rfl; (first | exact rfl | (dsimp only [eRN, List.set_cons_succ, List.set_cons_zero] <;> exact rfl)); intro h H) | ((with_reducible apply stElS0 (E := eRN) ⟨_, _, _, _⟩ H 0); exact rfl; assumption; (case hk => assumption); (first | exact rfl | (dsimp only [eRN, List.set_cons_succ, List.set_cons_zero] <;> exact rfl)); intro h H) | ((with_reducible apply stEl (E := eRN) ⟨_, _, _, _⟩ H 0); exact rfl; assumption; (case hk => assumption); exact rfl; (first | exact rfl | (dsimp only [eRN, List.set_cons_succ, List.set_cons_zero] <;> exact rfl)); intro h H) | ((with_reducible apply stEl0 (E := eRN) ⟨_, _, _, _⟩ H 0); exact rfl; assumption; (case hk => assumption); (first | exact rfl | (dsimp only [eRN, List.set_cons_succ, List.set_cons_zero] <;> exact rfl)); intro h H) | ((with_reducible apply stElS (E := eRN) ⟨_, _, _, _⟩ H 1); exact rfl; assumption; (case hk => assumption); exact rfl; (first | exact rfl | (dsimp only [eRN, List.set_cons_succ, List.set_cons_zero] <;> exact rfl)); intro h H) | ((with_reducible apply stElS0 (E := eRN) ⟨_, _, _, _⟩ H 1); exact rfl; assumption; (case hk => assumption); (first | exact rfl | (dsimp only [eRN, List.set_cons_succ, List.set_cons_zero] <;> exact rfl)); intro h H) | ((with_reducible apply stEl (E := eRN) ⟨_, _, _, _⟩ H 1); exact rfl; assumption; (case hk => assumption); exact rfl; (first | exact rfl | (dsimp only [eRN, List.set_cons_succ, List.set_cons_zero] <;> exact rfl)); intro h H) | ((with_reducible apply stEl0 (E := eRN) ⟨_, _, _, _⟩ H 1); exact rfl; assumption; (case hk => assumption); (first | exact rfl | (dsimp only [eRN, List.set_cons_succ, List.set_cons_zero] <;> exact rfl)); intro h H) | ((with_reducible apply allocAt H); intro h b H) | ((with_reducible refine ⟨?_, ?_⟩); first | ((with_reducible apply ldAt H 0); exact rfl; exact rfl; exact rfl) | ((with_reducible apply ldAt0 H 0); exact rfl; exact rfl; exact rfl) | ((with_reducible apply ldAt H 1); exact rfl; exact rfl; exact rfl) | ((with_reducible apply ldAt0 H 1); exact rfl; exact rfl; exact rfl) | ((with_reducible apply ldEl H 0); exact rfl; assumption; (case hk => assumption); exact rfl; exact rfl) | ((with_reducible apply ldEl0 H 0); exact rfl; assumption; (case hk => assumption); exact rfl; exact rfl) | ((with_reducible apply ldElS H 0); exact rfl; assumption; (case hk => assumption); exact rfl; exact rfl) | ((with_reducible apply ldElS0 H 0); exact rfl; assumption; (case hk => assumption); exact rfl; exact rfl) | ((with_reducible apply ldEl H 1); exact rfl; assumption; (case hk => assumption); exact rfl; exact rfl) | ((with_reducible apply ldEl0 H 1); exact rfl; assumption; (case hk => assumption); exact rfl; exact rfl) | ((with_reducible apply ldElS H 1); exact rfl; assumption; (case hk => assumption); exact rfl; exact rfl) | ((with_reducible apply ldElS0 H 1); exact rfl; assumption; (case hk => assumption); exact rfl; exact rfl)))
        refine ⟨?_, ?_⟩
        · exact ldAt (j := 1) H 7 rfl _ rfl rfl
        refine ⟨?_, ?_⟩
        · exact ldEl0 (E := eRN) H 2 rfl he2 hq _ rfl (ldEl (E := eRN) (j := 1) H 2 rfl he2 hq _ rfl (ldEl (E := eRN) (j := 2) H 2 rfl he2 hq _ rfl (ldEl (E := eRN) (j := 3) H 2 rfl he2 hq _ rfl rfl)))
        repeat (first | with_reducible refine nn ?_ | with_reducible refine let_ ?_ | with_reducible refine brSome ?_ | with_reducible refine brF ?_ | with_reducible refine brT ?_ | ((with_reducible apply ldAt H 0); exact rfl; exact rfl) | ((with_reducible apply ldAt0 H 0); exact rfl; exact rfl) | ((with_reducible apply stAt H 0); exact rfl; exact rfl; intro h H) | ((with_reducible apply stAt0 H 0); exact rfl; exact rfl; intro h H) | ((with_reducible refine ⟨?_, ?_⟩); first | ((with_reducible apply ldAt H 0); exact rfl; exact rfl; exact rfl) | ((with_reducible apply ldAt0 H 0); exact rfl; exact rfl; exact rfl)))
        have H := H.mv 1 6
        exact sendT_ok (C := kSend C (outsE (E.take i) x) p) (n := C.N[q]) (hndq hq hqi) hqi hlen2 H fun h' sF'' H => hks H
      · refine allocAt (cs := [.int .i64 0, .int .i64 0, .int .i64 0, .int .i64 0]) H fun h3 b3 H => ?_
        repeat (first | with_reducible refine nn ?_ | with_reducible refine let_ ?_ | with_reducible refine brSome ?_ | with_reducible refine brF ?_ | with_reducible refine brT ?_ | ((with_reducible apply ldAt H 1); exact rfl; exact rfl) | ((with_reducible apply ldAt0 H 1); exact rfl; exact rfl) | ((with_reducible apply ldAt H 2); exact rfl; exact rfl) | ((with_reducible apply ldAt0 H 2); exact rfl; exact rfl) | ((with_reducible apply stAt H 1); exact rfl; exact rfl; intro h H) | ((with_reducible apply stAt0 H 1); exact rfl; exact rfl; intro h H) | ((with_reducible apply stAt H 2); exact rfl; exact rfl; intro h H) | ((with_reducible apply stAt0 H 2); exact rfl; exact rfl; intro h H) | ((with_reducible refine ⟨?_, ?_⟩); first | ((with_reducible apply ldAt H 1); exact rfl; exact rfl; exact rfl) | ((with_reducible apply ldAt0 H 1); exact rfl; exact rfl; exact rfl) | ((with_reducible apply ldAt H 2); exact rfl; exact rfl; exact rfl) | ((with_reducible apply ldAt0 H 2); exact rfl; exact rfl; exact rfl)))
        refine ref14_place_ok (C := kSend C (outsE (E.take i) x) p) (G := _ :: _ :: _) (H.mv 2 6) hl64 (fun hno => absurd hto hno) fun q hq hqi h3 H => ?_
        repeat (first | with_reducible refine nn ?_ | with_reducible refine let_ ?_ | with_reducible refine brSome ?_ | with_reducible refine brF ?_ | with_reducible refine brT ?_ | ((with_reducible apply ldAt H 0); exact rfl; exact rfl) | ((with_reducible apply ldAt0 H 0); exact rfl; exact rfl) | ((with_reducible apply stAt H 0); exact rfl; exact rfl; intro h H) | ((with_reducible apply stAt0 H 0); exact rfl; exact rfl; intro h H) | ((with_reducible refine ⟨?_, ?_⟩); first | ((with_reducible apply ldAt H 0); exact rfl; exact rfl; exact rfl) | ((with_reducible apply ldAt0 H 0); exact rfl; exact rfl; exact rfl)))
        refine ixAt H 1 rfl q rfl hq fun e2 he2 => ?_
        refine ldEl0 (E := eRN) H 1 rfl he2 hq C.N[q].id rfl (ldEl (E := eRN) (j := 1) H 1 rfl he2 hq C.N[q].stamp rfl (ldEl (E := eRN) (j := 2) H 1 rfl he2 hq C.N[q].site rfl (ldEl (E := eRN) (j := 3) H 1 rfl he2 hq C.N[q].round rfl ?_)))
        repeat (first | with_reducible refine nn ?_ | with_reducible refine let_ ?_ | with_reducible refine brSome ?_ | with_reducible refine brF ?_ | with_reducible refine brT ?_ | ((with_reducible apply ldAt H 6); exact rfl; exact rfl) | ((with_reducible apply ldAt0 H 6); exact rfl; exact rfl) | ((with_reducible apply stAt H 6); exact rfl; exact rfl; intro h H) | ((with_reducible apply stAt0 H 6); exact rfl; exact rfl; intro h H) | ((with_reducible refine ⟨?_, ?_⟩); first | ((with_reducible apply ldAt H 6); exact rfl; exact rfl; exact rfl) | ((with_reducible apply ldAt0 H 6); exact rfl; exact rfl; exact rfl)))
        exact sendT_ok (C := kSend C (outsE (E.take i) x) p) (n := C.N[q]) (hndq hq hqi) hqi hlen2 H fun h' sF'' H => hks H
  · have hil : i = E.length := by omega
    subst hil
    rw [List.take_length, hout] at H
    exact hR _ _ (H.del 6)
theorem ref14_Begin_ok {id : Int} {R : Int → Int → Heap → Prop} (H : At h0 h (ref6 d ty s sN sE sH sF sV C E Hd ++ G)) (ho : COk s N C) (hr : RelK C E Hd) (hN : N ≤ 1000000) (hEl : E.length ≤ 100000) (hfl : C.fl.length ≤ 900000)
    (hR : ∀ h' sF', At h0 h' (ref6 d ty s sN sE sH sF' sV (kBegin C id).1 E Hd ++ G) → RelK (kBegin C id).1 E Hd → R (kBegin C id).2.1 (kBegin C id).2.2 h') : C_ref14_Field_Begin (some ⟨d, 0, none⟩) id h R := by
  refine A_ref14_Field_Begin ?_
  unfold S_ref14_Field_Begin
  unfold kBegin at hR
  have hl64 := ho.len
  refine ref14_place_ok H hl64 (fun hno h' H => ?_) fun q hq hqi h' H => ?_
  · rw [if_pos hno] at hR
    exact brY rfl (hR _ _ H hr)
  have hx : hasN C.N id := ⟨_, List.getElem_mem hq, hqi⟩
  have hnd : nd C.N id = C.N[q] := by rw [← hqi]; exact nd_eq ho.uniq (List.getElem_mem hq)
  rw [if_neg fun x => x hx] at hR
  have hnk := ho.ns _ (List.getElem_mem hq)
  have hr0 := hnk.r0
  have hr1 := hnk.r1
  have ho2 := ho.roundUp hx
  have hr2 := hr.upd ho (x := id) (f := fun n => { n with round := n.round + 1 }) (fun _ => rfl) (fun _ => rfl) C.fl C.vs
  have hN2 : C.N.set q { C.N[q] with round := C.N[q].round + 1 } = updN C.N id fun n => { n with round := n.round + 1 } := by
    refine (updN_set ho.uniq hq fun n => { n with round := n.round + 1 }).symm.trans ?_
    rw [hqi]
  refine brN (by simp) ?_
  repeat (first | with_reducible refine nn ?_ | with_reducible refine let_ ?_ | with_reducible refine brSome ?_ | with_reducible refine brF ?_ | with_reducible refine brT ?_ | ((with_reducible apply ldAt H 0); exact rfl; exact rfl) | ((with_reducible apply ldAt0 H 0); exact rfl; exact rfl) | ((with_reducible apply stAt H 0); exact rfl; exact rfl; intro h H) | ((with_reducible apply stAt0 H 0); exact rfl; exact rfl; intro h H) | ((with_reducible refine ⟨?_, ?_⟩); first | ((with_reducible apply ldAt H 0); exact rfl; exact rfl; exact rfl) | ((with_reducible apply ldAt0 H 0); exact rfl; exact rfl; exact rfl)))
  refine ixAt H 1 rfl q rfl hq fun e he => ?_
  refine ldEl (j := 3) H 1 rfl he hq C.N[q].round rfl ?_
  refine ixAt H 1 rfl q rfl hq fun e2 he2 => ?_
  rw [w64 (by omega) (by omega)]
  refine stEl (E := eRN) (j := 3) { C.N[q] with round := C.N[q].round + 1 } H 1 rfl he2 hq rfl rfl fun h2 H => ?_
  have hq2 : q < (C.N.set q { C.N[q] with round := C.N[q].round + 1 }).length := by rw [List.length_set]; exact hq
  repeat (first | with_reducible refine nn ?_ | with_reducible refine let_ ?_ | with_reducible refine brSome ?_ | with_reducible refine brF ?_ | with_reducible refine brT ?_ | ((with_reducible apply ldAt H 0); exact rfl; exact rfl) | ((with_reducible apply ldAt0 H 0); exact rfl; exact rfl) | ((with_reducible apply stAt H 0); exact rfl; exact rfl; intro h H) | ((with_reducible apply stAt0 H 0); exact rfl; exact rfl; intro h H) | ((with_reducible refine ⟨?_, ?_⟩); first | ((with_reducible apply ldAt H 0); exact rfl; exact rfl; exact rfl) | ((with_reducible apply ldAt0 H 0); exact rfl; exact rfl; exact rfl)))
  refine ixAt H 1 rfl q rfl hq2 fun e3 he3 => ?_
  refine ldElS (E := eRN) (j := 1) H 1 rfl he3 hq C.N[q].stamp rfl ?_
  repeat (first | with_reducible refine nn ?_ | with_reducible refine let_ ?_ | with_reducible refine brSome ?_ | with_reducible refine brF ?_ | with_reducible refine brT ?_ | ((with_reducible apply ldAt H 0); exact rfl; exact rfl) | ((with_reducible apply ldAt0 H 0); exact rfl; exact rfl) | ((with_reducible apply stAt H 0); exact rfl; exact rfl; intro h H) | ((with_reducible apply stAt0 H 0); exact rfl; exact rfl; intro h H) | ((with_reducible refine ⟨?_, ?_⟩); first | ((with_reducible apply ldAt H 0); exact rfl; exact rfl; exact rfl) | ((with_reducible apply ldAt0 H 0); exact rfl; exact rfl; exact rfl)))
  refine ixAt H 1 rfl q rfl hq2 fun e4 he4 => ?_
  refine ldElS (E := eRN) (j := 3) H 1 rfl he4 hq (C.N[q].round + 1) rfl ?_
  have H : At h0 h2 (ref6 d ty s sN sE sH sF sV { C with N := C.N.set q { C.N[q] with round := C.N[q].round + 1 } } E Hd ++ G) := H
  rw [hN2] at H
  have hto : (nd (updN C.N id fun n => { n with round := n.round + 1 }) id).to = (nd C.N id).to := by
    rw [nd_upd (f := fun n => { n with round := n.round + 1 }) (fun _ => rfl) ho.uniq hx, if_pos rfl]
  refine ref14_send_ok (C := { C with N := updN C.N id fun n => { n with round := n.round + 1 } }) (p := ⟨id, C.N[q].stamp, C.N[q].round + 1, 0⟩) H ho2 hr2 ((hasN_upd (f := fun n => { n with round := n.round + 1 }) (fun _ => rfl)).2 hx) hEl hfl fun h3 sF' H => ?_
  rw [hto] at H
  have hq3 : q < (updN C.N id fun n => { n with round := n.round + 1 }).length := by rw [updN_len]; exact hq
  repeat (first | with_reducible refine nn ?_ | with_reducible refine let_ ?_ | with_reducible refine brSome ?_ | with_reducible refine brF ?_ | with_reducible refine brT ?_ | ((with_reducible apply ldAt H 0); exact rfl; exact rfl) | ((with_reducible apply ldAt0 H 0); exact rfl; exact rfl) | ((with_reducible apply stAt H 0); exact rfl; exact rfl; intro h H) | ((with_reducible apply stAt0 H 0); exact rfl; exact rfl; intro h H) | ((with_reducible refine ⟨?_, ?_⟩); first | ((with_reducible apply ldAt H 0); exact rfl; exact rfl; exact rfl) | ((with_reducible apply ldAt0 H 0); exact rfl; exact rfl; exact rfl)))
  refine ixAt H 1 rfl q rfl hq3 fun e5 he5 => ?_
  have hg : (updN C.N id fun n => { n with round := n.round + 1 })[q] = { C.N[q] with round := C.N[q].round + 1 } := by
    simp only [← hN2, List.getElem_set_self]
  refine ldEl (E := eRN) (j := 3) H 1 rfl he5 hq3 (C.N[q].round + 1) (by
    show (eRN.cells (updN C.N id fun n => { n with round := n.round + 1 })[q])[3]? = _
    rw [hg]; rfl) ?_
  have h9 := hR h3 sF'
  rw [hnd] at h9
  rw [hnd] at H
  exact h9 H (hr2.rest _ _)
set_option maxHeartbeats 1600000 in
theorem ref14_Take_ok {i : Int} {R : KL [.int .i64, .int .i64, .int .i64, .int .i64] → Int → Heap → Prop} (H : At h0 h (ref6 d ty s sN sE sH sF sV C E Hd ++ G)) (hfl : C.fl.length ≤ 1000000)
    (hb : ¬ inFl C i → ∀ h', At h0 h' (ref6 d ty s sN sE sH sF sV C E Hd ++ G) → R (0, 0, 0, 0, ()) 6 h')
    (hg : inFl C i → ∀ h' sF', At h0 h' (ref6 d ty s sN sE sH sF' sV (kTake C i.toNat) E Hd ++ G) → R ((pAt C i).start, (pAt C i).stamp, (pAt C i).round, (pAt C i).at_, ()) 0 h') : C_ref14_Field_Take (some ⟨d, 0, none⟩) i h R := by
  refine A_ref14_Field_Take ?_
  unfold S_ref14_Field_Take
  have hfn := H.n 4 rfl
  have hcc := (H.own 4 rfl).2.1
  refine allocAt (cs := [.int .i64 0, .int .i64 0, .int .i64 0, .int .i64 0]) H fun h b1 H => ?_
  refine join1 (s1 := .one .bool) (fun (b : Bool) h3 => (b = true ↔ ¬ inFl C i) ∧ h3 = h) (fun _ (b : Bool) h3 hJ => ?_) ?_
  rotate_left
  · refine brD (fun h1 => ⟨⟨fun _ x => by have := x.1; omega, fun _ => rfl⟩, rfl⟩) fun h1 => ?_
    repeat (first | with_reducible refine nn ?_ | with_reducible refine let_ ?_ | with_reducible refine brSome ?_ | with_reducible refine brF ?_ | with_reducible refine brT ?_ | ((with_reducible apply ldAt H 1); exact rfl; exact rfl) | ((with_reducible apply ldAt0 H 1); exact rfl; exact rfl) | ((with_reducible apply stAt H 1); exact rfl; exact rfl; intro h H) | ((with_reducible apply stAt0 H 1); exact rfl; exact rfl; intro h H) | ((with_reducible refine ⟨?_, ?_⟩); first | ((with_reducible apply ldAt H 1); exact rfl; exact rfl; exact rfl) | ((with_reducible apply ldAt0 H 1); exact rfl; exact rfl; exact rfl)))
    refine ⟨?_, rfl⟩
    rw [decide_eq_true_iff]
    exact ⟨fun h x => by have := x.2; omega, fun x => Decidable.byContradiction fun h => x ⟨by omega, by omega⟩⟩
  obtain ⟨hbi, rfl⟩ := hJ
  refine brB (fun hbt => ?_) fun hbf => ?_
  · repeat (first | with_reducible refine nn ?_ | with_reducible refine let_ ?_ | with_reducible refine brSome ?_ | with_reducible refine brF ?_ | with_reducible refine brT ?_ | ((with_reducible apply ldAt H 0); exact rfl; exact rfl) | ((with_reducible apply ldAt0 H 0); exact rfl; exact rfl) | ((with_reducible apply stAt H 0); exact rfl; exact rfl; intro h H) | ((with_reducible apply stAt0 H 0); exact rfl; exact rfl; intro h H) | ((with_reducible refine ⟨?_, ?_⟩); first | ((with_reducible apply ldAt H 0); exact rfl; exact rfl; exact rfl) | ((with_reducible apply ldAt0 H 0); exact rfl; exact rfl; exact rfl)))
    exact hb (hbi.1 hbt) _ H.tail
  have hin : inFl C i := Decidable.byContradiction fun x => by rw [hbi.2 x] at hbf; exact nomatch hbf
  obtain ⟨_, k, rfl, hk, e⟩ := pAt_mem hin
  have hg := hg hin
  rw [e] at hg
  rw [show ((k : Int)).toNat = k by omega] at hg
  repeat (first | with_reducible refine nn ?_ | with_reducible refine let_ ?_ | with_reducible refine brSome ?_ | with_reducible refine brF ?_ | with_reducible refine brT ?_ | ((with_reducible apply ldAt H 1); exact rfl; exact rfl) | ((with_reducible apply ldAt0 H 1); exact rfl; exact rfl) | ((with_reducible apply stAt H 1); exact rfl; exact rfl; intro h H) | ((with_reducible apply stAt0 H 1); exact rfl; exact rfl; intro h H) | ((with_reducible refine ⟨?_, ?_⟩); first | ((with_reducible apply ldAt H 1); exact rfl; exact rfl; exact rfl) | ((with_reducible apply ldAt0 H 1); exact rfl; exact rfl; exact rfl)))
  refine ixAt H 5 rfl k rfl hk fun e he => ?_
  repeat (first | with_reducible refine nn ?_ | with_reducible refine let_ ?_ | with_reducible refine brSome ?_ | with_reducible refine brF ?_ | with_reducible refine brT ?_ | ((with_reducible apply ldAt H 0); exact rfl; exact rfl) | ((with_reducible apply ldAt0 H 0); exact rfl; exact rfl) | ((with_reducible apply ldAt H 1); exact rfl; exact rfl) | ((with_reducible apply ldAt0 H 1); exact rfl; exact rfl) | ((with_reducible apply ldAt H 2); exact rfl; exact rfl) | ((with_reducible apply ldAt0 H 2); exact rfl; exact rfl) | ((with_reducible apply ldAt H 3); exact rfl; exact rfl) | ((with_reducible apply ldAt0 H 3); exact rfl; exact rfl) | ((with_reducible apply ldAt H 4); exact rfl; exact rfl) | ((with_reducible apply ldAt0 H 4); exact rfl; exact rfl) | ((with_reducible apply ldAt H 5); exact rfl; exact rfl) | ((with_reducible apply ldAt0 H 5); exact rfl; exact rfl) | ((with_reducible apply ldEl H 0); exact rfl; assumption; (case hk => assumption); exact rfl) | ((with_reducible apply ldEl0 H 0); exact rfl; assumption; (case hk => assumption); exact rfl) | ((with_reducible apply ldElS H 0); exact rfl; assumption; (case hk => assumption); exact rfl) | ((with_reducible apply ldElS0 H 0); exact rfl; assumption; (case hk => assumption); exact rfl) | ((with_reducible apply ldEl H 1); exact rfl; assumption; (case hk => assumption); exact rfl) | ((with_reducible apply ldEl0 H 1); exact rfl; assumption; (case hk => assumption); exact rfl) | ((with_reducible apply ldElS H 1); exact rfl; assumption; (case hk => assumption); exact rfl) | ((with_reducible apply ldElS0 H 1); exact rfl; assumption; (case hk => assumption); exact rfl) | ((with_reducible apply ldEl H 2); exact rfl; assumption; (case hk => assumption); exact rfl) | ((with_reducible apply ldEl0 H 2); exact rfl; assumption; (case hk => assumption); exact rfl) | ((with_reducible apply ldElS H 2); exact rfl; assumption; (case hk => assumption); exact rfl) | ((with_reducible apply ldElS0 H 2); exact rfl; assumption; (case hk => assumption); exact rfl) | ((with_reducible apply ldEl H 3); exact rfl; assumption; (case hk => assumption); exact rfl) | ((with_reducible apply ldEl0 H 3); exact rfl; assumption; (case hk => assumption); exact rfl) | ((with_reducible apply ldElS H 3); exact rfl; assumption; (case hk => assumption); exact rfl) | ((with_reducible apply ldElS0 H 3); exact rfl; assumption; (case hk => assumption); exact rfl) | ((with_reducible apply ldEl H 4); exact rfl; assumption; (case hk => assumption); exact rfl) | ((with_reducible apply ldEl0 H 4); exact rfl; assumption; (case hk => assumption); exact rfl) | ((with_reducible apply ldElS H 4); exact rfl; assumption; (case hk => assumption); exact rfl) | ((with_reducible apply ldElS0 H 4); exact rfl; assumption; (case hk => assumption); exact rfl) | ((with_reducible apply ldEl H 5); exact rfl; assumption; (case hk => assumption); exact rfl) | ((with_reducible apply ldEl0 H 5); exact rfl; assumption; (case hk => assumption); exact rfl) | ((with_reducible apply ldElS H 5); exact rfl; assumption; (case hk => assumption); exact rfl) | ((with_reducible apply ldElS0 H 5); exact rfl; assumption; (case hk => assumption); exact rfl) | ((with_reducible apply stAt H 0); exact rfl; exact rfl; intro h H) | ((with_reducible apply stAt0 H 0); exact rfl; exact rfl; intro h H) | ((with_reducible apply stAt H 1); exact rfl; exact rfl; intro h H) | ((with_reducible apply stAt0 H 1); exact rfl; exact rfl; intro h H) | ((with_reducible apply stAt H 2); exact rfl; exact rfl; intro h H) | ((with_reducible apply stAt0 H 2); exact rfl; exact rfl; intro h H) | ((with_reducible apply stAt H 3); exact rfl; exact rfl; intro h H) | ((with_reducible apply stAt0 H 3); exact rfl; exact rfl; intro h H) | ((with_reducible apply stAt H 4); exact rfl; exact rfl; intro h H) | ((with_reducible apply stAt0 H 4); exact rfl; exact rfl; intro h H) | ((with_reducible apply stAt H 5); exact rfl; exact rfl; intro h H) | ((with_reducible apply stAt0 H 5); exact rfl; exact rfl; intro h H) | ((with_reducible apply stElS (E := eCP) ⟨_, _, _, _⟩ H 0); exact rfl; assumption; (case hk => assumption); exact rfl; (first | exact rfl | (dsimp only [eCP, List.set_cons_succ, List.set_cons_zero] <;> exact rfl)); intro h H) | ((with_reducible apply stElS0 (E := eCP) ⟨_, _, _, _⟩ H 0); exact rfl; assumption; (case hk => assumption); (first | exact rfl | (dsimp only [eCP, List.set_cons_succ, List.set_cons_zero] <;> exact rfl)); intro h H) | ((with_reducible apply stEl (E := eCP) ⟨_, _, _, _⟩ H 0); exact rfl; assumption; (case hk => assumption); exact rfl; (first | exact rfl | (dsimp only [eCP, List.set_cons_succ, List.set_cons_zero] <;> exact rfl)); intro h H) | ((with_reducible apply stEl0 (E := eCP) ⟨_, _, _, _⟩ H 0); exact rfl; assumption; (case hk => assumption); (first | exact rfl | (dsimp only [eCP, List.set_cons_succ, List.set_cons_zero] <;> exact rfl)); intro h H) | ((with_reducible apply stElS (E := eCP) ⟨_, _, _, _⟩ H 1); exact rfl; assumption; (case hk => assumption); exact rfl; (first | exact rfl | (dsimp only [eCP, List.set_cons_succ, List.set_cons_zero] <;> exact rfl)); intro h H) | ((with_reducible apply stElS0 (E := eCP) ⟨_, _, _, _⟩ H 1); exact rfl; assumption; (case hk => assumption); (first | exact rfl | (dsimp only [eCP, List.set_cons_succ, List.set_cons_zero] <;> exact rfl)); intro h H) | ((with_reducible apply stEl (E := eCP) ⟨_, _, _, _⟩ H 1); exact rfl; assumption; (case hk => assumption); exact rfl; (first | exact rfl | (dsimp only [eCP, List.set_cons_succ, List.set_cons_zero] <;> exact rfl)); intro h H) | ((with_reducible apply stEl0 (E := eCP) ⟨_, _, _, _⟩ H 1); exact rfl; assumption; (case hk => assumption); (first | exact rfl | (dsimp only [eCP, List.set_cons_succ, List.set_cons_zero] <;> exact rfl)); intro h H) | ((with_reducible apply stElS (E := eCP) ⟨_, _, _, _⟩ H 2); exact rfl; assumption; (case hk => assumption); exact rfl; (first | exact rfl | (dsimp only [eCP, List.set_cons_succ, List.set_cons_zero] <;> exact rfl)); intro h H) | ((with_reducible apply stElS0 (E := eCP) ⟨_, _, _, _⟩ H 2); exact rfl; assumption; (case hk => assumption); (first | exact rfl | (dsimp only [eCP, List.set_cons_succ, List.set_cons_zero] <;> exact rfl)); intro h H) | ((with_reducible apply stEl (E := eCP) ⟨_, _, _, _⟩ H 2); exact rfl; assumption; (case hk => assumption); exact rfl; (first | exact rfl | (dsimp only [eCP, List.set_cons_succ, List.set_cons_zero] <;> exact rfl)); intro h H) | ((with_reducible apply stEl0 (E := eCP) ⟨_, _, _, _⟩ H 2); exact rfl; assumption; (case hk => assumption); (first | exact rfl | (dsimp only [eCP, List.set_cons_succ, List.set_cons_zero] <;> exact rfl)); intro h H) | ((with_reducible apply stElS (E := eCP) ⟨_, _, _, _⟩ H 3); exact rfl; assumption; (case hk => assumption); exact rfl; (first | exact rfl | (dsimp only [eCP, List.set_cons_succ, List.set_cons_zero] <;> exact rfl)); intro h H) | ((with_reducible apply stElS0 (E := eCP) ⟨_, _, _, _⟩ H 3); exact rfl; assumption; (case hk => assumption); (first | exact rfl | (dsimp only [eCP, List.set_cons_succ, List.set_cons_zero] <;> exact rfl)); intro h H) | ((with_reducible apply stEl (E := eCP) ⟨_, _, _, _⟩ H 3); exact rfl; assumption; (case hk => assumption); exact rfl; (first | exact rfl | (dsimp only [eCP, List.set_cons_succ, List.set_cons_zero] <;> exact rfl)); intro h H) | ((with_reducible apply stEl0 (E := eCP) ⟨_, _, _, _⟩ H 3); exact rfl; assumption; (case hk => assumption); (first | exact rfl | (dsimp only [eCP, List.set_cons_succ, List.set_cons_zero] <;> exact rfl)); intro h H) | ((with_reducible apply stElS (E := eCP) ⟨_, _, _, _⟩ H 4); exact rfl; assumption; (case hk => assumption); exact rfl; (first | exact rfl | (dsimp only [eCP, List.set_cons_succ, List.set_cons_zero] <;> exact rfl)); intro h H) | ((with_reducible apply stElS0 (E := eCP) ⟨_, _, _, _⟩ H 4); exact rfl; assumption; (case hk => assumption); (first | exact rfl | (dsimp only [eCP, List.set_cons_succ, List.set_cons_zero] <;> exact rfl)); intro h H) | ((with_reducible apply stEl (E := eCP) ⟨_, _, _, _⟩ H 4); exact rfl; assumption; (case hk => assumption); exact rfl; (first | exact rfl | (dsimp only [eCP, List.set_cons_succ, List.set_cons_zero] <;> exact rfl)); intro h H) | ((with_reducible apply stEl0 (E := eCP) ⟨_, _, _, _⟩ H 4); exact rfl; assumption; (case hk => assumption); (first | exact rfl | (dsimp only [eCP, List.set_cons_succ, List.set_cons_zero] <;> exact rfl)); intro h H) | ((with_reducible apply stElS (E := eCP) ⟨_, _, _, _⟩ H 5); exact rfl; assumption; (case hk => assumption); exact rfl; (first | exact rfl | (dsimp only [eCP, List.set_cons_succ, List.set_cons_zero] <;> exact rfl)); intro h H) | ((with_reducible apply stElS0 (E := eCP) ⟨_, _, _, _⟩ H 5); exact rfl; assumption; (case hk => assumption); (first | exact rfl | (dsimp only [eCP, List.set_cons_succ, List.set_cons_zero] <;> exact rfl)); intro h H) | ((with_reducible apply stEl (E := eCP) ⟨_, _, _, _⟩ H 5); exact rfl; assumption; (case hk => assumption); exact rfl; (first | exact rfl | (dsimp only [eCP, List.set_cons_succ, List.set_cons_zero] <;> exact rfl)); intro h H) | ((with_reducible apply stEl0 (E := eCP) ⟨_, _, _, _⟩ H 5); exact rfl; assumption; (case hk => assumption); (first | exact rfl | (dsimp only [eCP, List.set_cons_succ, List.set_cons_zero] <;> exact rfl)); intro h H) | ((with_reducible apply allocAt H); intro h b H) | ((with_reducible refine ⟨?_, ?_⟩); first | ((with_reducible apply ldAt H 0); exact rfl; exact rfl; exact rfl) | ((with_reducible apply ldAt0 H 0); exact rfl; exact rfl; exact rfl) | ((with_reducible apply ldAt H 1); exact rfl; exact rfl; exact rfl) | ((with_reducible apply ldAt0 H 1); exact rfl; exact rfl; exact rfl) | ((with_reducible apply ldAt H 2); exact rfl; exact rfl; exact rfl) | ((with_reducible apply ldAt0 H 2); exact rfl; exact rfl; exact rfl) | ((with_reducible apply ldAt H 3); exact rfl; exact rfl; exact rfl) | ((with_reducible apply ldAt0 H 3); exact rfl; exact rfl; exact rfl) | ((with_reducible apply ldAt H 4); exact rfl; exact rfl; exact rfl) | ((with_reducible apply ldAt0 H 4); exact rfl; exact rfl; exact rfl) | ((with_reducible apply ldAt H 5); exact rfl; exact rfl; exact rfl) | ((with_reducible apply ldAt0 H 5); exact rfl; exact rfl; exact rfl) | ((with_reducible apply ldEl H 0); exact rfl; assumption; (case hk => assumption); exact rfl; exact rfl) | ((with_reducible apply ldEl0 H 0); exact rfl; assumption; (case hk => assumption); exact rfl; exact rfl) | ((with_reducible apply ldElS H 0); exact rfl; assumption; (case hk => assumption); exact rfl; exact rfl) | ((with_reducible apply ldElS0 H 0); exact rfl; assumption; (case hk => assumption); exact rfl; exact rfl) | ((with_reducible apply ldEl H 1); exact rfl; assumption; (case hk => assumption); exact rfl; exact rfl) | ((with_reducible apply ldEl0 H 1); exact rfl; assumption; (case hk => assumption); exact rfl; exact rfl) | ((with_reducible apply ldElS H 1); exact rfl; assumption; (case hk => assumption); exact rfl; exact rfl) | ((with_reducible apply ldElS0 H 1); exact rfl; assumption; (case hk => assumption); exact rfl; exact rfl) | ((with_reducible apply ldEl H 2); exact rfl; assumption; (case hk => assumption); exact rfl; exact rfl) | ((with_reducible apply ldEl0 H 2); exact rfl; assumption; (case hk => assumption); exact rfl; exact rfl) | ((with_reducible apply ldElS H 2); exact rfl; assumption; (case hk => assumption); exact rfl; exact rfl) | ((with_reducible apply ldElS0 H 2); exact rfl; assumption; (case hk => assumption); exact rfl; exact rfl) | ((with_reducible apply ldEl H 3); exact rfl; assumption; (case hk => assumption); exact rfl; exact rfl) | ((with_reducible apply ldEl0 H 3); exact rfl; assumption; (case hk => assumption); exact rfl; exact rfl) | ((with_reducible apply ldElS H 3); exact rfl; assumption; (case hk => assumption); exact rfl; exact rfl) | ((with_reducible apply ldElS0 H 3); exact rfl; assumption; (case hk => assumption); exact rfl; exact rfl) | ((with_reducible apply ldEl H 4); exact rfl; assumption; (case hk => assumption); exact rfl; exact rfl) | ((with_reducible apply ldEl0 H 4); exact rfl; assumption; (case hk => assumption); exact rfl; exact rfl) | ((with_reducible apply ldElS H 4); exact rfl; assumption; (case hk => assumption); exact rfl; exact rfl) | ((with_reducible apply ldElS0 H 4); exact rfl; assumption; (case hk => assumption); exact rfl; exact rfl) | ((with_reducible apply ldEl H 5); exact rfl; assumption; (case hk => assumption); exact rfl; exact rfl) | ((with_reducible apply ldEl0 H 5); exact rfl; assumption; (case hk => assumption); exact rfl; exact rfl) | ((with_reducible apply ldElS H 5); exact rfl; assumption; (case hk => assumption); exact rfl; exact rfl) | ((with_reducible apply ldElS0 H 5); exact rfl; assumption; (case hk => assumption); exact rfl; exact rfl)))
  rename Nat => b2
  have hhi : HiIs (some (.int .i64 (IntKind.i64.wrap ((k : Int) + 1)))) sF.n (k + 1) := by rw [w64 (by omega) (by omega)]; exact hii (by omega)
  have hlo : LoIs (some (.int .i64 (IntKind.i64.wrap ((k : Int) + 1)))) (k + 1) := by rw [w64 (by omega) (by omega)]; exact loi (by omega)
  refine cut_raw TCP 0 k sF.c lo0 (hii rfl) (.inl ⟨rfl, rfl⟩) (Nat.zero_le _) (by omega) (Nat.le_refl _) ?_
  repeat (first | with_reducible refine nn ?_ | with_reducible refine let_ ?_ | with_reducible refine brSome ?_ | with_reducible refine brF ?_ | with_reducible refine brT ?_ | ((with_reducible apply ldAt H 2); exact rfl; exact rfl) | ((with_reducible apply ldAt0 H 2); exact rfl; exact rfl) | ((with_reducible apply stAt H 2); exact rfl; exact rfl; intro h H) | ((with_reducible apply stAt0 H 2); exact rfl; exact rfl; intro h H) | ((with_reducible refine ⟨?_, ?_⟩); first | ((with_reducible apply ldAt H 2); exact rfl; exact rfl; exact rfl) | ((with_reducible apply ldAt0 H 2); exact rfl; exact rfl; exact rfl)))
  refine cut_raw TCP (k + 1) sF.n sF.c hlo (hi0 _) (.inl ⟨rfl, rfl⟩) (by omega) hcc (Nat.le_refl _) ?_
  have nil_ : ∀ {h' : Heap} {M : List Res} {c : Nat} {tc : TypeId}, At h0 h' (.blk c tc [] :: M) → At h0 h' (.own ⟨some ⟨c, 0, none⟩, 0, 0⟩ 4 (eCP.fl []) :: M) := fun {h' M c tc} H => H.as_ 0 rfl (.own ⟨some ⟨c, 0, none⟩, 0, 0⟩ 4 (eCP.fl [])) (Own.full (H.get 0 rfl : Blk h' c _ []) (sz := 4) (n := 0) rfl (by decide)) (fun g hg => by have hg : some c = some g := hg; injection hg with hg; exact hg.symm)
  have rdA : ∀ {h' : Heap} {M : List Res} (j : Nat), At h0 h' M → M[j]? = some (.own sF 4 (eCP.fl C.fl)) → RdS h' 4 (cutSl sF 4 0 (k) sF.c) (eCP.fl (C.fl.take (k))) := fun j H hj => by
    have := rd_cut TCP (H.rdo j hj) 0 (k) sF.c (Nat.zero_le _) (by omega) (by omega)
    rwa [Nat.zero_mul, List.drop_zero, Nat.sub_zero, eCP.fl_take] at this
  have rdB : ∀ {h' : Heap} {M : List Res} (j : Nat), At h0 h' M → M[j]? = some (.own sF 4 (eCP.fl C.fl)) → RdS h' 4 (cutSl sF 4 (k) sF.n sF.c) (eCP.fl (C.fl.drop (k))) := fun j H hj => by
    have := rd_cut TCP (H.rdo j hj) (k) sF.n sF.c (by omega) (Nat.le_refl _) (H.own j hj).2.1
    rwa [eCP.fl_drop, eCP.fl_take, List.take_of_length_le (by rw [List.length_drop]; omega)] at this
  have hl1 : (C.fl.take (k)).length ≤ C.fl.length := by rw [List.length_take]; exact Nat.min_le_right ..
  have hl2 : (C.fl.drop (k)).length ≤ C.fl.length := by rw [List.length_drop]; omega
  clear rdB
  have rdB : ∀ {h' : Heap} {M : List Res} (j : Nat), At h0 h' M → M[j]? = some (.own sF 4 (eCP.fl C.fl)) → RdS h' 4 (cutSl sF 4 (k + 1) sF.n sF.c) (eCP.fl (C.fl.drop (k + 1))) := fun j H hj => by
    have := rd_cut TCP (H.rdo j hj) (k + 1) sF.n sF.c (by omega) (Nat.le_refl _) (H.own j hj).2.1
    rwa [eCP.fl_drop, eCP.fl_take, List.take_of_length_le (by rw [List.length_drop]; omega)] at this
  have hl3 : (C.fl.drop (k + 1)).length ≤ C.fl.length := by rw [List.length_drop]; omega
  refine allocAt (cs := []) H fun h b3 H => ?_
  repeat (first | with_reducible refine nn ?_ | with_reducible refine let_ ?_ | with_reducible refine brSome ?_ | with_reducible refine brF ?_ | with_reducible refine brT ?_ | ((with_reducible apply ldAt H 3); exact rfl; exact rfl) | ((with_reducible apply ldAt0 H 3); exact rfl; exact rfl) | ((with_reducible apply stAt H 3); exact rfl; exact rfl; intro h H) | ((with_reducible apply stAt0 H 3); exact rfl; exact rfl; intro h H) | ((with_reducible refine ⟨?_, ?_⟩); first | ((with_reducible apply ldAt H 3); exact rfl; exact rfl; exact rfl) | ((with_reducible apply ldAt0 H 3); exact rfl; exact rfl; exact rfl)))
  have H := nil_ H
  refine appAt (ys := C.fl.take k) TCP H 0 rfl (rdA 7 H rfl) (by simp; omega) (by simp; omega) fun s_ h H => ?_
  rw [List.nil_append] at H
  repeat (first | with_reducible refine nn ?_ | with_reducible refine let_ ?_ | with_reducible refine brSome ?_ | with_reducible refine brF ?_ | with_reducible refine brT ?_ | ((with_reducible apply ldAt H 3); exact rfl; exact rfl) | ((with_reducible apply ldAt0 H 3); exact rfl; exact rfl) | ((with_reducible apply stAt H 3); exact rfl; exact rfl; intro h H) | ((with_reducible apply stAt0 H 3); exact rfl; exact rfl; intro h H) | ((with_reducible refine ⟨?_, ?_⟩); first | ((with_reducible apply ldAt H 3); exact rfl; exact rfl; exact rfl) | ((with_reducible apply ldAt0 H 3); exact rfl; exact rfl; exact rfl)))
  refine appAt (ys := C.fl.drop (k + 1)) TCP H 0 rfl (rdB 7 H rfl) (by simp; omega) (by simp; omega) fun s_ h H => ?_
  repeat (first | with_reducible refine nn ?_ | with_reducible refine let_ ?_ | with_reducible refine brSome ?_ | with_reducible refine brF ?_ | with_reducible refine brT ?_ | ((with_reducible apply ldAt H 1); exact rfl; exact rfl) | ((with_reducible apply ldAt0 H 1); exact rfl; exact rfl) | ((with_reducible apply ldAt H 2); exact rfl; exact rfl) | ((with_reducible apply ldAt0 H 2); exact rfl; exact rfl) | ((with_reducible apply ldAt H 3); exact rfl; exact rfl) | ((with_reducible apply ldAt0 H 3); exact rfl; exact rfl) | ((with_reducible apply stAt H 1); exact rfl; exact rfl; intro h H) | ((with_reducible apply stAt0 H 1); exact rfl; exact rfl; intro h H) | ((with_reducible apply stAt H 2); exact rfl; exact rfl; intro h H) | ((with_reducible apply stAt0 H 2); exact rfl; exact rfl; intro h H) | ((with_reducible apply stAt H 3); exact rfl; exact rfl; intro h H) | ((with_reducible apply stAt0 H 3); exact rfl; exact rfl; intro h H) | ((with_reducible refine ⟨?_, ?_⟩); first | ((with_reducible apply ldAt H 1); exact rfl; exact rfl; exact rfl) | ((with_reducible apply ldAt0 H 1); exact rfl; exact rfl; exact rfl) | ((with_reducible apply ldAt H 2); exact rfl; exact rfl; exact rfl) | ((with_reducible apply ldAt0 H 2); exact rfl; exact rfl; exact rfl) | ((with_reducible apply ldAt H 3); exact rfl; exact rfl; exact rfl) | ((with_reducible apply ldAt0 H 3); exact rfl; exact rfl; exact rfl)))
  have H := ((H.del 7).mv 1 2).tail.tail
  exact hg _ s_ (H.mv 1 4)
theorem ref14_Double_ok {i : Int} {R : Int → Heap → Prop} (H : At h0 h (ref6 d ty s sN sE sH sF sV C E Hd ++ G)) (hfl : C.fl.length ≤ 1000000)
    (hR : ∀ h' sF', At h0 h' (ref6 d ty s sN sE sH sF' sV (kDouble C i).1 E Hd ++ G) → R (kDouble C i).2 h') : C_ref14_Field_Double (some ⟨d, 0, none⟩) i h R := by
  refine A_ref14_Field_Double ?_
  unfold S_ref14_Field_Double
  unfold kDouble at hR
  have hfn := H.n 4 rfl
  refine join1 (s1 := .one .bool) (fun (b : Bool) h3 => (b = true ↔ ¬ inFl C i) ∧ h3 = h) (fun _ (b : Bool) h3 hJ => ?_) ?_
  rotate_left
  · refine brD (fun h1 => ⟨⟨fun _ x => by have := x.1; omega, fun _ => rfl⟩, rfl⟩) fun h1 => ?_
    repeat (first | with_reducible refine nn ?_ | with_reducible refine let_ ?_ | with_reducible refine brSome ?_ | with_reducible refine brF ?_ | with_reducible refine brT ?_ | ((with_reducible apply ldAt H 0); exact rfl; exact rfl) | ((with_reducible apply ldAt0 H 0); exact rfl; exact rfl) | ((with_reducible apply stAt H 0); exact rfl; exact rfl; intro h H) | ((with_reducible apply stAt0 H 0); exact rfl; exact rfl; intro h H) | ((with_reducible refine ⟨?_, ?_⟩); first | ((with_reducible apply ldAt H 0); exact rfl; exact rfl; exact rfl) | ((with_reducible apply ldAt0 H 0); exact rfl; exact rfl; exact rfl)))
    refine ⟨?_, rfl⟩
    rw [decide_eq_true_iff]
    exact ⟨fun h x => by have := x.2; omega, fun x => Decidable.byContradiction fun h => x ⟨by omega, by omega⟩⟩
  obtain ⟨hbi, rfl⟩ := hJ
  refine brB (fun hbt => ?_) fun hbf => ?_
  · rw [if_neg (hbi.1 hbt)] at hR
    exact hR _ _ H
  have hin : inFl C i := Decidable.byContradiction fun x => by rw [hbi.2 x] at hbf; exact nomatch hbf
  rw [if_pos hin] at hR
  obtain ⟨_, k, rfl, hk, e⟩ := pAt_mem hin
  rw [e] at hR
  repeat (first | with_reducible refine nn ?_ | with_reducible refine let_ ?_ | with_reducible refine brSome ?_ | with_reducible refine brF ?_ | with_reducible refine brT ?_ | ((with_reducible apply ldAt H 0); exact rfl; exact rfl) | ((with_reducible apply ldAt0 H 0); exact rfl; exact rfl) | ((with_reducible apply stAt H 0); exact rfl; exact rfl; intro h H) | ((with_reducible apply stAt0 H 0); exact rfl; exact rfl; intro h H) | ((with_reducible refine ⟨?_, ?_⟩); first | ((with_reducible apply ldAt H 0); exact rfl; exact rfl; exact rfl) | ((with_reducible apply ldAt0 H 0); exact rfl; exact rfl; exact rfl)))
  refine ixAt H 4 rfl k rfl hk fun e he => ?_
  repeat (first | with_reducible refine nn ?_ | with_reducible refine let_ ?_ | with_reducible refine brSome ?_ | with_reducible refine brF ?_ | with_reducible refine brT ?_ | ((with_reducible apply ldAt H 0); exact rfl; exact rfl) | ((with_reducible apply ldAt0 H 0); exact rfl; exact rfl) | ((with_reducible apply ldAt H 1); exact rfl; exact rfl) | ((with_reducible apply ldAt0 H 1); exact rfl; exact rfl) | ((with_reducible apply ldAt H 2); exact rfl; exact rfl) | ((with_reducible apply ldAt0 H 2); exact rfl; exact rfl) | ((with_reducible apply ldAt H 3); exact rfl; exact rfl) | ((with_reducible apply ldAt0 H 3); exact rfl; exact rfl) | ((with_reducible apply ldAt H 4); exact rfl; exact rfl) | ((with_reducible apply ldAt0 H 4); exact rfl; exact rfl) | ((with_reducible apply ldEl H 0); exact rfl; assumption; (case hk => assumption); exact rfl) | ((with_reducible apply ldEl0 H 0); exact rfl; assumption; (case hk => assumption); exact rfl) | ((with_reducible apply ldElS H 0); exact rfl; assumption; (case hk => assumption); exact rfl) | ((with_reducible apply ldElS0 H 0); exact rfl; assumption; (case hk => assumption); exact rfl) | ((with_reducible apply ldEl H 1); exact rfl; assumption; (case hk => assumption); exact rfl) | ((with_reducible apply ldEl0 H 1); exact rfl; assumption; (case hk => assumption); exact rfl) | ((with_reducible apply ldElS H 1); exact rfl; assumption; (case hk => assumption); exact rfl) | ((with_reducible apply ldElS0 H 1); exact rfl; assumption; (case hk => assumption); exact rfl) | ((with_reducible apply ldEl H 2); exact rfl; assumption; (case hk => assumption); exact rfl) | ((with_reducible apply ldEl0 H 2); exact rfl; assumption; (case hk => assumption); exact rfl) | ((with_reducible apply ldElS H 2); exact rfl; assumption; (case hk => assumption); exact rfl) | ((with_reducible apply ldElS0 H 2); exact rfl; assumption; (case hk => assumption); exact rfl) | ((with_reducible apply ldEl H 3); exact rfl; assumption; (case hk => assumption); exact rfl) | ((with_reducible apply ldEl0 H 3); exact rfl; assumption; (case hk => assumption); exact rfl) | ((with_reducible apply ldElS H 3); exact rfl; assumption; (case hk => assumption); exact rfl) | ((with_reducible apply ldElS0 H 3); exact rfl; assumption; (case hk => assumption); exact rfl) | ((with_reducible apply ldEl H 4); exact rfl; assumption; (case hk => assumption); exact rfl) | ((with_reducible apply ldEl0 H 4); exact rfl; assumption; (case hk => assumption); exact rfl) | ((with_reducible apply ldElS H 4); exact rfl; assumption; (case hk => assumption); exact rfl) | ((with_reducible apply ldElS0 H 4); exact rfl; assumption; (case hk => assumption); exact rfl) | ((with_reducible apply stAt H 0); exact rfl; exact rfl; intro h H) | ((with_reducible apply stAt0 H 0); exact rfl; exact rfl; intro h H) | ((with_reducible apply stAt H 1); exact rfl; exact rfl; intro h H) | ((with_reducible apply stAt0 H 1); exact rfl; exact rfl; intro h H) | ((with_reducible apply stAt H 2); exact rfl; exact rfl; intro h H) | ((with_reducible apply stAt0 H 2); exact rfl; exact rfl; intro h H) | ((with_reducible apply stAt H 3); exact rfl; exact rfl; intro h H) | ((with_reducible apply stAt0 H 3); exact rfl; exact rfl; intro h H) | ((with_reducible apply stAt H 4); exact rfl; exact rfl; intro h H) | ((with_reducible apply stAt0 H 4); exact rfl; exact rfl; intro h H) | ((with_reducible apply stElS (E := eCP) ⟨_, _, _, _⟩ H 0); exact rfl; assumption; (case hk => assumption); exact rfl; (first | exact rfl | (dsimp only [eCP, List.set_cons_succ, List.set_cons_zero] <;> exact rfl)); intro h H) | ((with_reducible apply stElS0 (E := eCP) ⟨_, _, _, _⟩ H 0); exact rfl; assumption; (case hk => assumption); (first | exact rfl | (dsimp only [eCP, List.set_cons_succ, List.set_cons_zero] <;> exact rfl)); intro h H) | ((with_reducible apply stEl (E := eCP) ⟨_, _, _, _⟩ H 0); exact rfl; assumption; (case hk => assumption); exact rfl; (first | exact rfl | (dsimp only [eCP, List.set_cons_succ, List.set_cons_zero] <;> exact rfl)); intro h H) | ((with_reducible apply stEl0 (E := eCP) ⟨_, _, _, _⟩ H 0); exact rfl; assumption; (case hk => assumption); (first | exact rfl | (dsimp only [eCP, List.set_cons_succ, List.set_cons_zero] <;> exact rfl)); intro h H) | ((with_reducible apply stElS (E := eCP) ⟨_, _, _, _⟩ H 1); exact rfl; assumption; (case hk => assumption); exact rfl; (first | exact rfl | (dsimp only [eCP, List.set_cons_succ, List.set_cons_zero] <;> exact rfl)); intro h H) | ((with_reducible apply stElS0 (E := eCP) ⟨_, _, _, _⟩ H 1); exact rfl; assumption; (case hk => assumption); (first | exact rfl | (dsimp only [eCP, List.set_cons_succ, List.set_cons_zero] <;> exact rfl)); intro h H) | ((with_reducible apply stEl (E := eCP) ⟨_, _, _, _⟩ H 1); exact rfl; assumption; (case hk => assumption); exact rfl; (first | exact rfl | (dsimp only [eCP, List.set_cons_succ, List.set_cons_zero] <;> exact rfl)); intro h H) | ((with_reducible apply stEl0 (E := eCP) ⟨_, _, _, _⟩ H 1); exact rfl; assumption; (case hk => assumption); (first | exact rfl | (dsimp only [eCP, List.set_cons_succ, List.set_cons_zero] <;> exact rfl)); intro h H) | ((with_reducible apply stElS (E := eCP) ⟨_, _, _, _⟩ H 2); exact rfl; assumption; (case hk => assumption); exact rfl; (first | exact rfl | (dsimp only [eCP, List.set_cons_succ, List.set_cons_zero] <;> exact rfl)); intro h H) | ((with_reducible apply stElS0 (E := eCP) ⟨_, _, _, _⟩ H 2); exact rfl; assumption; (case hk => assumption); (first | exact rfl | (dsimp only [eCP, List.set_cons_succ, List.set_cons_zero] <;> exact rfl)); intro h H) | ((with_reducible apply stEl (E := eCP) ⟨_, _, _, _⟩ H 2); exact rfl; assumption; (case hk => assumption); exact rfl; (first | exact rfl | (dsimp only [eCP, List.set_cons_succ, List.set_cons_zero] <;> exact rfl)); intro h H) | ((with_reducible apply stEl0 (E := eCP) ⟨_, _, _, _⟩ H 2); exact rfl; assumption; (case hk => assumption); (first | exact rfl | (dsimp only [eCP, List.set_cons_succ, List.set_cons_zero] <;> exact rfl)); intro h H) | ((with_reducible apply stElS (E := eCP) ⟨_, _, _, _⟩ H 3); exact rfl; assumption; (case hk => assumption); exact rfl; (first | exact rfl | (dsimp only [eCP, List.set_cons_succ, List.set_cons_zero] <;> exact rfl)); intro h H) | ((with_reducible apply stElS0 (E := eCP) ⟨_, _, _, _⟩ H 3); exact rfl; assumption; (case hk => assumption); (first | exact rfl | (dsimp only [eCP, List.set_cons_succ, List.set_cons_zero] <;> exact rfl)); intro h H) | ((with_reducible apply stEl (E := eCP) ⟨_, _, _, _⟩ H 3); exact rfl; assumption; (case hk => assumption); exact rfl; (first | exact rfl | (dsimp only [eCP, List.set_cons_succ, List.set_cons_zero] <;> exact rfl)); intro h H) | ((with_reducible apply stEl0 (E := eCP) ⟨_, _, _, _⟩ H 3); exact rfl; assumption; (case hk => assumption); (first | exact rfl | (dsimp only [eCP, List.set_cons_succ, List.set_cons_zero] <;> exact rfl)); intro h H) | ((with_reducible apply stElS (E := eCP) ⟨_, _, _, _⟩ H 4); exact rfl; assumption; (case hk => assumption); exact rfl; (first | exact rfl | (dsimp only [eCP, List.set_cons_succ, List.set_cons_zero] <;> exact rfl)); intro h H) | ((with_reducible apply stElS0 (E := eCP) ⟨_, _, _, _⟩ H 4); exact rfl; assumption; (case hk => assumption); (first | exact rfl | (dsimp only [eCP, List.set_cons_succ, List.set_cons_zero] <;> exact rfl)); intro h H) | ((with_reducible apply stEl (E := eCP) ⟨_, _, _, _⟩ H 4); exact rfl; assumption; (case hk => assumption); exact rfl; (first | exact rfl | (dsimp only [eCP, List.set_cons_succ, List.set_cons_zero] <;> exact rfl)); intro h H) | ((with_reducible apply stEl0 (E := eCP) ⟨_, _, _, _⟩ H 4); exact rfl; assumption; (case hk => assumption); (first | exact rfl | (dsimp only [eCP, List.set_cons_succ, List.set_cons_zero] <;> exact rfl)); intro h H) | ((with_reducible apply allocAt H); intro h b H) | ((with_reducible refine ⟨?_, ?_⟩); first | ((with_reducible apply ldAt H 0); exact rfl; exact rfl; exact rfl) | ((with_reducible apply ldAt0 H 0); exact rfl; exact rfl; exact rfl) | ((with_reducible apply ldAt H 1); exact rfl; exact rfl; exact rfl) | ((with_reducible apply ldAt0 H 1); exact rfl; exact rfl; exact rfl) | ((with_reducible apply ldAt H 2); exact rfl; exact rfl; exact rfl) | ((with_reducible apply ldAt0 H 2); exact rfl; exact rfl; exact rfl) | ((with_reducible apply ldAt H 3); exact rfl; exact rfl; exact rfl) | ((with_reducible apply ldAt0 H 3); exact rfl; exact rfl; exact rfl) | ((with_reducible apply ldAt H 4); exact rfl; exact rfl; exact rfl) | ((with_reducible apply ldAt0 H 4); exact rfl; exact rfl; exact rfl) | ((with_reducible apply ldEl H 0); exact rfl; assumption; (case hk => assumption); exact rfl; exact rfl) | ((with_reducible apply ldEl0 H 0); exact rfl; assumption; (case hk => assumption); exact rfl; exact rfl) | ((with_reducible apply ldElS H 0); exact rfl; assumption; (case hk => assumption); exact rfl; exact rfl) | ((with_reducible apply ldElS0 H 0); exact rfl; assumption; (case hk => assumption); exact rfl; exact rfl) | ((with_reducible apply ldEl H 1); exact rfl; assumption; (case hk => assumption); exact rfl; exact rfl) | ((with_reducible apply ldEl0 H 1); exact rfl; assumption; (case hk => assumption); exact rfl; exact rfl) | ((with_reducible apply ldElS H 1); exact rfl; assumption; (case hk => assumption); exact rfl; exact rfl) | ((with_reducible apply ldElS0 H 1); exact rfl; assumption; (case hk => assumption); exact rfl; exact rfl) | ((with_reducible apply ldEl H 2); exact rfl; assumption; (case hk => assumption); exact rfl; exact rfl) | ((with_reducible apply ldEl0 H 2); exact rfl; assumption; (case hk => assumption); exact rfl; exact rfl) | ((with_reducible apply ldElS H 2); exact rfl; assumption; (case hk => assumption); exact rfl; exact rfl) | ((with_reducible apply ldElS0 H 2); exact rfl; assumption; (case hk => assumption); exact rfl; exact rfl) | ((with_reducible apply ldEl H 3); exact rfl; assumption; (case hk => assumption); exact rfl; exact rfl) | ((with_reducible apply ldEl0 H 3); exact rfl; assumption; (case hk => assumption); exact rfl; exact rfl) | ((with_reducible apply ldElS H 3); exact rfl; assumption; (case hk => assumption); exact rfl; exact rfl) | ((with_reducible apply ldElS0 H 3); exact rfl; assumption; (case hk => assumption); exact rfl; exact rfl) | ((with_reducible apply ldEl H 4); exact rfl; assumption; (case hk => assumption); exact rfl; exact rfl) | ((with_reducible apply ldEl0 H 4); exact rfl; assumption; (case hk => assumption); exact rfl; exact rfl) | ((with_reducible apply ldElS H 4); exact rfl; assumption; (case hk => assumption); exact rfl; exact rfl) | ((with_reducible apply ldElS0 H 4); exact rfl; assumption; (case hk => assumption); exact rfl; exact rfl)))
  refine app1B (E := eCP) TCP H 5 rfl 0 rfl C.fl[k] rfl (by omega) (by omega) fun s3 h H => ?_
  repeat (first | with_reducible refine nn ?_ | with_reducible refine let_ ?_ | with_reducible refine brSome ?_ | with_reducible refine brF ?_ | with_reducible refine brT ?_ | ((with_reducible apply ldAt H 1); exact rfl; exact rfl) | ((with_reducible apply ldAt0 H 1); exact rfl; exact rfl) | ((with_reducible apply stAt H 1); exact rfl; exact rfl; intro h H) | ((with_reducible apply stAt0 H 1); exact rfl; exact rfl; intro h H) | ((with_reducible refine ⟨?_, ?_⟩); first | ((with_reducible apply ldAt H 1); exact rfl; exact rfl; exact rfl) | ((with_reducible apply ldAt0 H 1); exact rfl; exact rfl; exact rfl)))
  exact hR _ s3 H.tail
set_option maxHeartbeats 3200000 in
theorem ref14_Deliver_ok {i : Int} {R : Int → Bool → Int → Heap → Prop} (H : At h0 h (ref6 d ty s sN sE sH sF sV C E Hd ++ G)) (ho : COk s N C) (hr : RelK C E Hd) (hN : N ≤ 1000000) (hEl : E.length ≤ 100000) (hHl : Hd.length ≤ 100000) (hfl : C.fl.length ≤ 900000)
    (hR : ∀ h' sH' sF' sV' Hd', At h0 h' (ref6 d ty s sN sE sH' sF' sV' (kDeliver C i).1 E Hd' ++ G) → RelK (kDeliver C i).1 E Hd' → Hd'.length ≤ Hd.length + 1 → R (kDeliver C i).2.1 (kDeliver C i).2.2.1 (kDeliver C i).2.2.2 h') : C_ref14_Field_Deliver (some ⟨d, 0, none⟩) i h R := by
  refine A_ref14_Field_Deliver ?_
  unfold S_ref14_Field_Deliver
  refine ref14_Take_ok H (by omega) (fun hno h' H => ?_) fun hin h' sF2 H => ?_
  · unfold kDeliver at hR
    rw [if_neg hno] at hR
    repeat (first | with_reducible refine nn ?_ | with_reducible refine let_ ?_ | with_reducible refine brSome ?_ | with_reducible refine brF ?_ | with_reducible refine brT ?_ | ((with_reducible apply ldAt H 0); exact rfl; exact rfl) | ((with_reducible apply ldAt0 H 0); exact rfl; exact rfl) | ((with_reducible apply stAt H 0); exact rfl; exact rfl; intro h H) | ((with_reducible apply stAt0 H 0); exact rfl; exact rfl; intro h H) | ((with_reducible apply allocAt H); intro h b H) | ((with_reducible refine ⟨?_, ?_⟩); first | ((with_reducible apply ldAt H 0); exact rfl; exact rfl; exact rfl) | ((with_reducible apply ldAt0 H 0); exact rfl; exact rfl; exact rfl)))
    exact brY rfl (hR _ _ _ _ _ H.tail hr (by omega))
  have hp := ho.fls _ (pAt_mem hin).1
  have ho1 := ho.take i.toNat
  have hr1 : RelK (kTake C i.toNat) E Hd := hr.rest _ _
  have htl := take_len C i.toNat
  unfold kDeliver at hR
  rw [if_pos hin] at hR
  have hp1 : FlOk (kTake C i.toNat) (pAt C i) := hp.grow (.refl _)
  generalize kTake C i.toNat = D at *
  generalize pAt C i = p at *
  clear hin
  have hvl := ho1.vlen
  have hvn := H.n 5 rfl
  have hvc := (H.own 5 rfl).2.1
  have hhn := H.n 3 rfl
  refine allocAt (cs := [.int .i64 0, .int .i64 0, .int .i64 0, .int .i64 0]) H fun h b1 H => ?_
  repeat (first | with_reducible refine nn ?_ | with_reducible refine let_ ?_ | with_reducible refine brSome ?_ | with_reducible refine brF ?_ | with_reducible refine brT ?_ | ((with_reducible apply ldAt H 0); exact rfl; exact rfl) | ((with_reducible apply ldAt0 H 0); exact rfl; exact rfl) | ((with_reducible apply stAt H 0); exact rfl; exact rfl; intro h H) | ((with_reducible apply stAt0 H 0); exact rfl; exact rfl; intro h H) | ((with_reducible refine ⟨?_, ?_⟩); first | ((with_reducible apply ldAt H 0); exact rfl; exact rfl; exact rfl) | ((with_reducible apply ldAt0 H 0); exact rfl; exact rfl; exact rfl)))
  refine brN rfl ?_
  repeat (first | with_reducible refine nn ?_ | with_reducible refine let_ ?_ | with_reducible refine brSome ?_ | with_reducible refine brF ?_ | with_reducible refine brT ?_ | ((with_reducible apply ldAt H 0); exact rfl; exact rfl) | ((with_reducible apply ldAt0 H 0); exact rfl; exact rfl) | ((with_reducible apply stAt H 0); exact rfl; exact rfl; intro h H) | ((with_reducible apply stAt0 H 0); exact rfl; exact rfl; intro h H) | ((with_reducible refine ⟨?_, ?_⟩); first | ((with_reducible apply ldAt H 0); exact rfl; exact rfl; exact rfl) | ((with_reducible apply ldAt0 H 0); exact rfl; exact rfl; exact rfl)))
  have H : At h0 h (ref6 d ty s sN sE sH sF2 sV D E Hd ++ (.blk b1 37 [.int .i64 p.start, .int .i64 p.stamp, .int .i64 p.round, .int .i64 p.at_] :: G)) := H.mv 1 6
  unfold kDlv at hR
  refine br beq_iff_eq (fun hself => ?_) fun hself => ?_
  · rw [if_pos hself] at hR
    have hs := ho1.vs.1
    have hle := loI_le hs p.start
    have hml := mem_loI hs (x := p.start)
    refine join1 (s1 := .one (.int .i64)) (fun (y : Int) h4 => y = (loI D.vs p.start : Nat) ∧ h4 = h) (fun _ (y : Int) h4 hJ => ?_) ?_
    rotate_left
    · refine loop1 (s1 := .one (.int .i64)) (fun (y : Int) h4 => ∃ i : Nat, y = i ∧ i ≤ D.vs.length ∧ h4 = h ∧ ∀ j, (hj : j < D.vs.length) → j < i → D.vs[j] < p.start) (fun (y : Int) _ => (D.vs.length - y).toNat)
        ⟨0, rfl, Nat.zero_le _, rfl, fun j _ hj => absurd hj (Nat.not_lt_zero _)⟩ fun _ (y : Int) h4 hI => ?_
      obtain ⟨i, rfl, hi, rfl, hlo⟩ := hI
      repeat (first | with_reducible refine nn ?_ | with_reducible refine let_ ?_ | with_reducible refine brSome ?_ | with_reducible refine brF ?_ | with_reducible refine brT ?_ | ((with_reducible apply ldAt H 0); exact rfl; exact rfl) | ((with_reducible apply ldAt0 H 0); exact rfl; exact rfl) | ((with_reducible apply stAt H 0); exact rfl; exact rfl; intro h H) | ((with_reducible apply stAt0 H 0); exact rfl; exact rfl; intro h H) | ((with_reducible refine ⟨?_, ?_⟩); first | ((with_reducible apply ldAt H 0); exact rfl; exact rfl; exact rfl) | ((with_reducible apply ldAt0 H 0); exact rfl; exact rfl; exact rfl)))
      have fin : (∀ j, (hj : j < D.vs.length) → i ≤ j → p.start ≤ D.vs[j]) → ((i : Int) = (loI D.vs p.start : Nat) ∧ h4 = h4) := fun hhi => ⟨by rw [CutI.uniq ⟨hi, hlo, hhi⟩ (loI_cut hs p.start)], rfl⟩
      refine brD (fun hc => ?_) fun hc => fin fun j hj hij => by omega
      have hi2 : i < D.vs.length := by omega
      repeat (first | with_reducible refine nn ?_ | with_reducible refine let_ ?_ | with_reducible refine brSome ?_ | with_reducible refine brF ?_ | with_reducible refine brT ?_ | ((with_reducible apply ldAt H 0); exact rfl; exact rfl) | ((with_reducible apply ldAt0 H 0); exact rfl; exact rfl) | ((with_reducible apply stAt H 0); exact rfl; exact rfl; intro h H) | ((with_reducible apply stAt0 H 0); exact rfl; exact rfl; intro h H) | ((with_reducible refine ⟨?_, ?_⟩); first | ((with_reducible apply ldAt H 0); exact rfl; exact rfl; exact rfl) | ((with_reducible apply ldAt0 H 0); exact rfl; exact rfl; exact rfl)))
      refine ixAt H 5 rfl i rfl hi2 fun e he => ?_
      refine ldEl0 (E := eNum) H 5 rfl he hi2 D.vs[i] rfl ?_
      repeat (first | with_reducible refine nn ?_ | with_reducible refine let_ ?_ | with_reducible refine brSome ?_ | with_reducible refine brF ?_ | with_reducible refine brT ?_ | ((with_reducible apply ldAt H 6); exact rfl; exact rfl) | ((with_reducible apply ldAt0 H 6); exact rfl; exact rfl) | ((with_reducible apply stAt H 6); exact rfl; exact rfl; intro h H) | ((with_reducible apply stAt0 H 6); exact rfl; exact rfl; intro h H) | ((with_reducible refine ⟨?_, ?_⟩); first | ((with_reducible apply ldAt H 6); exact rfl; exact rfl; exact rfl) | ((with_reducible apply ldAt0 H 6); exact rfl; exact rfl; exact rfl)))
      refine brD (fun hlt => let_ ?_) fun hge => fin fun j hj hij => ?_
      · rw [w64 (by omega) (by omega)]
        refine ⟨⟨i + 1, by omega, by omega, rfl, fun j hj hji => ?_⟩, by omega⟩
        by_cases e : j < i
        · exact hlo j hj e
        · obtain rfl : j = i := by omega
          exact hlt
      · by_cases e : j = i
        · subst e; omega
        · have := srtI_lt hs (show i < j by omega) hj
          omega
    obtain ⟨rfl, rfl⟩ := hJ
    refine join1 (s1 := .one .bool) (fun (b : Bool) h5 => (b = true ↔ p.start ∉ D.vs) ∧ h5 = h4) (fun _ (b : Bool) h5 hJ => ?_) ?_
    rotate_left
    · repeat (first | with_reducible refine nn ?_ | with_reducible refine let_ ?_ | with_reducible refine brSome ?_ | with_reducible refine brF ?_ | with_reducible refine brT ?_ | ((with_reducible apply ldAt H 0); exact rfl; exact rfl) | ((with_reducible apply ldAt0 H 0); exact rfl; exact rfl) | ((with_reducible apply stAt H 0); exact rfl; exact rfl; intro h H) | ((with_reducible apply stAt0 H 0); exact rfl; exact rfl; intro h H) | ((with_reducible refine ⟨?_, ?_⟩); first | ((with_reducible apply ldAt H 0); exact rfl; exact rfl; exact rfl) | ((with_reducible apply ldAt0 H 0); exact rfl; exact rfl; exact rfl)))
      refine br beq_iff_eq (fun he => ⟨⟨fun _ hm => by obtain ⟨hm, _⟩ := hml.1 hm; omega, fun _ => rfl⟩, rfl⟩) fun hne => ?_
      have hi2 : loI D.vs p.start < D.vs.length := by omega
      repeat (first | with_reducible refine nn ?_ | with_reducible refine let_ ?_ | with_reducible refine brSome ?_ | with_reducible refine brF ?_ | with_reducible refine brT ?_ | ((with_reducible apply ldAt H 0); exact rfl; exact rfl) | ((with_reducible apply ldAt0 H 0); exact rfl; exact rfl) | ((with_reducible apply stAt H 0); exact rfl; exact rfl; intro h H) | ((with_reducible apply stAt0 H 0); exact rfl; exact rfl; intro h H) | ((with_reducible refine ⟨?_, ?_⟩); first | ((with_reducible apply ldAt H 0); exact rfl; exact rfl; exact rfl) | ((with_reducible apply ldAt0 H 0); exact rfl; exact rfl; exact rfl)))
      refine ixAt H 5 rfl _ rfl hi2 fun e he => ?_
      refine ldEl0 (E := eNum) H 5 rfl he hi2 D.vs[loI D.vs p.start] rfl ?_
      repeat (first | with_reducible refine nn ?_ | with_reducible refine let_ ?_ | with_reducible refine brSome ?_ | with_reducible refine brF ?_ | with_reducible refine brT ?_ | ((with_reducible apply ldAt H 6); exact rfl; exact rfl) | ((with_reducible apply ldAt0 H 6); exact rfl; exact rfl) | ((with_reducible apply stAt H 6); exact rfl; exact rfl; intro h H) | ((with_reducible apply stAt0 H 6); exact rfl; exact rfl; intro h H) | ((with_reducible refine ⟨?_, ?_⟩); first | ((with_reducible apply ldAt H 6); exact rfl; exact rfl; exact rfl) | ((with_reducible apply ldAt0 H 6); exact rfl; exact rfl; exact rfl)))
      refine ⟨?_, rfl⟩
      rw [bne_iff_ne]
      exact ⟨fun x hm => x (hml.1 hm).2, fun x e => x (hml.2 ⟨hi2, e⟩)⟩
    obtain ⟨hb, rfl⟩ := hJ
    refine join0 (fun h6 => ∃ sV', At h0 h6 (ref6 d ty s sN sE sH sF2 sV' { D with vs := insI D.vs p.start } E Hd ++ (.blk b1 37 [.int .i64 p.start, .int .i64 p.stamp, .int .i64 p.round, .int .i64 p.at_] :: G))) (fun _ h6 hJ => ?_) ?_
    · obtain ⟨sV', H⟩ := hJ
      repeat (first | with_reducible refine nn ?_ | with_reducible refine let_ ?_ | with_reducible refine brSome ?_ | with_reducible refine brF ?_ | with_reducible refine brT ?_ | ((with_reducible apply ldAt H 6); exact rfl; exact rfl) | ((with_reducible apply ldAt0 H 6); exact rfl; exact rfl) | ((with_reducible apply stAt H 6); exact rfl; exact rfl; intro h H) | ((with_reducible apply stAt0 H 6); exact rfl; exact rfl; intro h H) | ((with_reducible refine ⟨?_, ?_⟩); first | ((with_reducible apply ldAt H 6); exact rfl; exact rfl; exact rfl) | ((with_reducible apply ldAt0 H 6); exact rfl; exact rfl; exact rfl)))
      exact hR _ _ _ _ _ (H.del 6) (hr1.rest _ _) (by omega)
    refine brB (fun hbt => ?_) fun hbf => ?_
    · have hnm := hb.1 hbt
      have hins : insI D.vs p.start = D.vs.take (loI D.vs p.start) ++ [p.start] ++ D.vs.drop (loI D.vs p.start) := by
        unfold insI; rw [if_neg hnm]; unfold putI; rw [List.append_assoc]; rfl
      rw [hins]
      repeat (first | with_reducible refine nn ?_ | with_reducible refine let_ ?_ | with_reducible refine brSome ?_ | with_reducible refine brF ?_ | with_reducible refine brT ?_ | ((with_reducible apply ldAt H 0); exact rfl; exact rfl) | ((with_reducible apply ldAt0 H 0); exact rfl; exact rfl) | ((with_reducible apply stAt H 0); exact rfl; exact rfl; intro h H) | ((with_reducible apply stAt0 H 0); exact rfl; exact rfl; intro h H) | ((with_reducible refine ⟨?_, ?_⟩); first | ((with_reducible apply ldAt H 0); exact rfl; exact rfl; exact rfl) | ((with_reducible apply ldAt0 H 0); exact rfl; exact rfl; exact rfl)))
      refine cut_raw TNum 0 (loI D.vs p.start) sV.c lo0 (hii rfl) (.inl ⟨rfl, rfl⟩) (Nat.zero_le _) (by omega) (Nat.le_refl _) ?_
      repeat (first | with_reducible refine nn ?_ | with_reducible refine let_ ?_ | with_reducible refine brSome ?_ | with_reducible refine brF ?_ | with_reducible refine brT ?_ | ((with_reducible apply ldAt H 0); exact rfl; exact rfl) | ((with_reducible apply ldAt0 H 0); exact rfl; exact rfl) | ((with_reducible apply ldAt H 6); exact rfl; exact rfl) | ((with_reducible apply ldAt0 H 6); exact rfl; exact rfl) | ((with_reducible apply stAt H 0); exact rfl; exact rfl; intro h H) | ((with_reducible apply stAt0 H 0); exact rfl; exact rfl; intro h H) | ((with_reducible apply stAt H 6); exact rfl; exact rfl; intro h H) | ((with_reducible apply stAt0 H 6); exact rfl; exact rfl; intro h H) | ((with_reducible refine ⟨?_, ?_⟩); first | ((with_reducible apply ldAt H 0); exact rfl; exact rfl; exact rfl) | ((with_reducible apply ldAt0 H 0); exact rfl; exact rfl; exact rfl) | ((with_reducible apply ldAt H 6); exact rfl; exact rfl; exact rfl) | ((with_reducible apply ldAt0 H 6); exact rfl; exact rfl; exact rfl)))
      refine cut_raw TNum (loI D.vs p.start) sV.n sV.c (loi rfl) (hi0 _) (.inl ⟨rfl, rfl⟩) (by omega) hvc (Nat.le_refl _) ?_
      have nil_ : ∀ {h' : Heap} {M : List Res} {c : Nat} {tc : TypeId}, At h0 h' (.blk c tc [] :: M) → At h0 h' (.own ⟨some ⟨c, 0, none⟩, 0, 0⟩ 1 (eNum.fl []) :: M) := fun {h' M c tc} H => H.as_ 0 rfl (.own ⟨some ⟨c, 0, none⟩, 0, 0⟩ 1 (eNum.fl [])) (Own.full (H.get 0 rfl : Blk h' c _ []) (sz := 1) (n := 0) rfl (by decide)) (fun g hg => by have hg : some c = some g := hg; injection hg with hg; exact hg.symm)
      have rdA : ∀ {h' : Heap} {M : List Res} (j : Nat), At h0 h' M → M[j]? = some (.own sV 1 (eNum.fl D.vs)) → RdS h' 1 (cutSl sV 1 0 (loI D.vs p.start) sV.c) (eNum.fl (D.vs.take (loI D.vs p.start))) := fun j H hj => by
        have := rd_cut TNum (H.rdo j hj) 0 (loI D.vs p.start) sV.c (Nat.zero_le _) (by omega) (by omega)
        rwa [Nat.zero_mul, List.drop_zero, Nat.sub_zero, eNum.fl_take] at this
      have rdB : ∀ {h' : Heap} {M : List Res} (j : Nat), At h0 h' M → M[j]? = some (.own sV 1 (eNum.fl D.vs)) → RdS h' 1 (cutSl sV 1 (loI D.vs p.start) sV.n sV.c) (eNum.fl (D.vs.drop (loI D.vs p.start))) := fun j H hj => by
        have := rd_cut TNum (H.rdo j hj) (loI D.vs p.start) sV.n sV.c (by omega) (Nat.le_refl _) (H.own j hj).2.1
        rwa [eNum.fl_drop, eNum.fl_take, List.take_of_length_le (by rw [List.length_drop]; omega)] at this
      have hl1 : (D.vs.take (loI D.vs p.start)).length ≤ D.vs.length := by rw [List.length_take]; exact Nat.min_le_right ..
      have hl2 : (D.vs.drop (loI D.vs p.start)).length ≤ D.vs.length := by rw [List.length_drop]; omega
      have fin : ∀ (s_ : Sl) (h' : Heap), At h0 h' (.own s_ 1 (eNum.fl (D.vs.take (loI D.vs p.start) ++ [p.start] ++ D.vs.drop (loI D.vs p.start))) :: (ref6 d ty s sN sE sH sF2 sV D E Hd ++ (.blk b1 37 [.int .i64 p.start, .int .i64 p.stamp, .int .i64 p.round, .int .i64 p.at_] :: G))) → Nn (some (⟨d, 0, none⟩ : Addr)) fun q => St h' (q.add 5) (.slice s_.a s_.n s_.c) fun h2 => ∃ sV', At h0 h2 (ref6 d ty s sN sE sH sF2 sV' { D with vs := D.vs.take (loI D.vs p.start) ++ [p.start] ++ D.vs.drop (loI D.vs p.start) } E Hd ++ (.blk b1 37 [.int .i64 p.start, .int .i64 p.stamp, .int .i64 p.round, .int .i64 p.at_] :: G)) := fun s_ h' H => by
        repeat (first | with_reducible refine nn ?_ | with_reducible refine let_ ?_ | with_reducible refine brSome ?_ | with_reducible refine brF ?_ | with_reducible refine brT ?_ | ((with_reducible apply ldAt H 0); exact rfl; exact rfl) | ((with_reducible apply ldAt0 H 0); exact rfl; exact rfl) | ((with_reducible apply ldAt H 1); exact rfl; exact rfl) | ((with_reducible apply ldAt0 H 1); exact rfl; exact rfl) | ((with_reducible apply stAt H 0); exact rfl; exact rfl; intro h H) | ((with_reducible apply stAt0 H 0); exact rfl; exact rfl; intro h H) | ((with_reducible apply stAt H 1); exact rfl; exact rfl; intro h H) | ((with_reducible apply stAt0 H 1); exact rfl; exact rfl; intro h H) | ((with_reducible refine ⟨?_, ?_⟩); first | ((with_reducible apply ldAt H 0); exact rfl; exact rfl; exact rfl) | ((with_reducible apply ldAt0 H 0); exact rfl; exact rfl; exact rfl) | ((with_reducible apply ldAt H 1); exact rfl; exact rfl; exact rfl) | ((with_reducible apply ldAt0 H 1); exact rfl; exact rfl; exact rfl)))
        exact ⟨s_, (H.del 6).mv 1 5⟩
      refine ⟨?_, ?_⟩
      · refine allocAt (cs := []) H fun h c0_ H => ?_
        repeat (first | with_reducible refine nn ?_ | with_reducible refine let_ ?_ | with_reducible refine brSome ?_ | with_reducible refine brF ?_ | with_reducible refine brT ?_ | ((with_reducible apply ldAt H 1); exact rfl; exact rfl) | ((with_reducible apply ldAt0 H 1); exact rfl; exact rfl) | ((with_reducible apply ldAt H 7); exact rfl; exact rfl) | ((with_reducible apply ldAt0 H 7); exact rfl; exact rfl) | ((with_reducible apply stAt H 1); exact rfl; exact rfl; intro h H) | ((with_reducible apply stAt0 H 1); exact rfl; exact rfl; intro h H) | ((with_reducible apply stAt H 7); exact rfl; exact rfl; intro h H) | ((with_reducible apply stAt0 H 7); exact rfl; exact rfl; intro h H) | ((with_reducible refine ⟨?_, ?_⟩); first | ((with_reducible apply ldAt H 1); exact rfl; exact rfl; exact rfl) | ((with_reducible apply ldAt0 H 1); exact rfl; exact rfl; exact rfl) | ((with_reducible apply ldAt H 7); exact rfl; exact rfl; exact rfl) | ((with_reducible apply ldAt0 H 7); exact rfl; exact rfl; exact rfl)))
        refine ⟨?_, ?_⟩
        · have H := nil_ H
          refine appAt (ys := D.vs.take (loI D.vs p.start)) TNum H 0 rfl (rdA 6 H rfl) (by simp; omega) (by simp; omega) fun s_ h H => ?_
          rw [List.nil_append] at H
          repeat (first | with_reducible refine nn ?_ | with_reducible refine let_ ?_ | with_reducible refine brSome ?_ | with_reducible refine brF ?_ | with_reducible refine brT ?_ | ((with_reducible apply ldAt H 1); exact rfl; exact rfl) | ((with_reducible apply ldAt0 H 1); exact rfl; exact rfl) | ((with_reducible apply ldAt H 7); exact rfl; exact rfl) | ((with_reducible apply ldAt0 H 7); exact rfl; exact rfl) | ((with_reducible apply stAt H 1); exact rfl; exact rfl; intro h H) | ((with_reducible apply stAt0 H 1); exact rfl; exact rfl; intro h H) | ((with_reducible apply stAt H 7); exact rfl; exact rfl; intro h H) | ((with_reducible apply stAt0 H 7); exact rfl; exact rfl; intro h H) | ((with_reducible refine ⟨?_, ?_⟩); first | ((with_reducible apply ldAt H 1); exact rfl; exact rfl; exact rfl) | ((with_reducible apply ldAt0 H 1); exact rfl; exact rfl; exact rfl) | ((with_reducible apply ldAt H 7); exact rfl; exact rfl; exact rfl) | ((with_reducible apply ldAt0 H 7); exact rfl; exact rfl; exact rfl)))
          refine allocAt (cs := eNum.cells p.start) H fun h c_ H => ?_
          repeat (first | with_reducible refine nn ?_ | with_reducible refine let_ ?_ | with_reducible refine brSome ?_ | with_reducible refine brF ?_ | with_reducible refine brT ?_ | ((with_reducible apply ldAt H 2); exact rfl; exact rfl) | ((with_reducible apply ldAt0 H 2); exact rfl; exact rfl) | ((with_reducible apply ldAt H 8); exact rfl; exact rfl) | ((with_reducible apply ldAt0 H 8); exact rfl; exact rfl) | ((with_reducible apply stAt H 2); exact rfl; exact rfl; intro h H) | ((with_reducible apply stAt0 H 2); exact rfl; exact rfl; intro h H) | ((with_reducible apply stAt H 8); exact rfl; exact rfl; intro h H) | ((with_reducible apply stAt0 H 8); exact rfl; exact rfl; intro h H) | ((with_reducible refine ⟨?_, ?_⟩); first | ((with_reducible apply ldAt H 2); exact rfl; exact rfl; exact rfl) | ((with_reducible apply ldAt0 H 2); exact rfl; exact rfl; exact rfl) | ((with_reducible apply ldAt H 8); exact rfl; exact rfl; exact rfl) | ((with_reducible apply ldAt0 H 8); exact rfl; exact rfl; exact rfl)))
          refine app1B (E := eNum) TNum H 1 rfl 0 rfl p.start rfl (by simp; omega) (by simp; omega) fun s_ h H => ?_
          repeat (first | with_reducible refine nn ?_ | with_reducible refine let_ ?_ | with_reducible refine brSome ?_ | with_reducible refine brF ?_ | with_reducible refine brT ?_ | ((with_reducible apply ldAt H 2); exact rfl; exact rfl) | ((with_reducible apply ldAt0 H 2); exact rfl; exact rfl) | ((with_reducible apply ldAt H 8); exact rfl; exact rfl) | ((with_reducible apply ldAt0 H 8); exact rfl; exact rfl) | ((with_reducible apply stAt H 2); exact rfl; exact rfl; intro h H) | ((with_reducible apply stAt0 H 2); exact rfl; exact rfl; intro h H) | ((with_reducible apply stAt H 8); exact rfl; exact rfl; intro h H) | ((with_reducible apply stAt0 H 8); exact rfl; exact rfl; intro h H) | ((with_reducible refine ⟨?_, ?_⟩); first | ((with_reducible apply ldAt H 2); exact rfl; exact rfl; exact rfl) | ((with_reducible apply ldAt0 H 2); exact rfl; exact rfl; exact rfl) | ((with_reducible apply ldAt H 8); exact rfl; exact rfl; exact rfl) | ((with_reducible apply ldAt0 H 8); exact rfl; exact rfl; exact rfl)))
          refine appAt (ys := D.vs.drop (loI D.vs p.start)) TNum H 1 rfl (rdB 7 H rfl) (by simp; omega) (by simp; omega) fun s_ h H => ?_
          exact fin _ _ (H.tail)
        · refine allocAt (cs := eNum.cells p.start) H fun h c_ H => ?_
          repeat (first | with_reducible refine nn ?_ | with_reducible refine let_ ?_ | with_reducible refine brSome ?_ | with_reducible refine brF ?_ | with_reducible refine brT ?_ | ((with_reducible apply ldAt H 2); exact rfl; exact rfl) | ((with_reducible apply ldAt0 H 2); exact rfl; exact rfl) | ((with_reducible apply ldAt H 8); exact rfl; exact rfl) | ((with_reducible apply ldAt0 H 8); exact rfl; exact rfl) | ((with_reducible apply stAt H 2); exact rfl; exact rfl; intro h H) | ((with_reducible apply stAt0 H 2); exact rfl; exact rfl; intro h H) | ((with_reducible apply stAt H 8); exact rfl; exact rfl; intro h H) | ((with_reducible apply stAt0 H 8); exact rfl; exact rfl; intro h H) | ((with_reducible refine ⟨?_, ?_⟩); first | ((with_reducible apply ldAt H 2); exact rfl; exact rfl; exact rfl) | ((with_reducible apply ldAt0 H 2); exact rfl; exact rfl; exact rfl) | ((with_reducible apply ldAt H 8); exact rfl; exact rfl; exact rfl) | ((with_reducible apply ldAt0 H 8); exact rfl; exact rfl; exact rfl)))
          have H := nil_ (H.mv 1 1)
          refine appAt (ys := D.vs.take (loI D.vs p.start)) TNum H 0 rfl (rdA 7 H rfl) (by simp; omega) (by simp; omega) fun s_ h H => ?_
          rw [List.nil_append] at H
          repeat (first | with_reducible refine nn ?_ | with_reducible refine let_ ?_ | with_reducible refine brSome ?_ | with_reducible refine brF ?_ | with_reducible refine brT ?_ | ((with_reducible apply ldAt H 2); exact rfl; exact rfl) | ((with_reducible apply ldAt0 H 2); exact rfl; exact rfl) | ((with_reducible apply ldAt H 8); exact rfl; exact rfl) | ((with_reducible apply ldAt0 H 8); exact rfl; exact rfl) | ((with_reducible apply stAt H 2); exact rfl; exact rfl; intro h H) | ((with_reducible apply stAt0 H 2); exact rfl; exact rfl; intro h H) | ((with_reducible apply stAt H 8); exact rfl; exact rfl; intro h H) | ((with_reducible apply stAt0 H 8); exact rfl; exact rfl; intro h H) | ((with_reducible refine ⟨?_, ?_⟩); first | ((with_reducible apply ldAt H 2); exact rfl; exact rfl; exact rfl) | ((with_reducible apply ldAt0 H 2); exact rfl; exact rfl; exact rfl) | ((with_reducible apply ldAt H 8); exact rfl; exact rfl; exact rfl) | ((with_reducible apply ldAt0 H 8); exact rfl; exact rfl; exact rfl)))
          refine app1B (E := eNum) TNum H 0 rfl 1 rfl p.start rfl (by simp; omega) (by simp; omega) fun s_ h H => ?_
          repeat (first | with_reducible refine nn ?_ | with_reducible refine let_ ?_ | with_reducible refine brSome ?_ | with_reducible refine brF ?_ | with_reducible refine brT ?_ | ((with_reducible apply ldAt H 2); exact rfl; exact rfl) | ((with_reducible apply ldAt0 H 2); exact rfl; exact rfl) | ((with_reducible apply ldAt H 8); exact rfl; exact rfl) | ((with_reducible apply ldAt0 H 8); exact rfl; exact rfl) | ((with_reducible apply stAt H 2); exact rfl; exact rfl; intro h H) | ((with_reducible apply stAt0 H 2); exact rfl; exact rfl; intro h H) | ((with_reducible apply stAt H 8); exact rfl; exact rfl; intro h H) | ((with_reducible apply stAt0 H 8); exact rfl; exact rfl; intro h H) | ((with_reducible refine ⟨?_, ?_⟩); first | ((with_reducible apply ldAt H 2); exact rfl; exact rfl; exact rfl) | ((with_reducible apply ldAt0 H 2); exact rfl; exact rfl; exact rfl) | ((with_reducible apply ldAt H 8); exact rfl; exact rfl; exact rfl) | ((with_reducible apply ldAt0 H 8); exact rfl; exact rfl; exact rfl)))
          refine appAt (ys := D.vs.drop (loI D.vs p.start)) TNum H 0 rfl (rdB 7 H rfl) (by simp; omega) (by simp; omega) fun s_ h H => ?_
          exact fin _ _ (H.del 1)
      · refine allocAt (cs := eNum.cells p.start) H fun h c_ H => ?_
        repeat (first | with_reducible refine nn ?_ | with_reducible refine let_ ?_ | with_reducible refine brSome ?_ | with_reducible refine brF ?_ | with_reducible refine brT ?_ | ((with_reducible apply ldAt H 1); exact rfl; exact rfl) | ((with_reducible apply ldAt0 H 1); exact rfl; exact rfl) | ((with_reducible apply ldAt H 7); exact rfl; exact rfl) | ((with_reducible apply ldAt0 H 7); exact rfl; exact rfl) | ((with_reducible apply stAt H 1); exact rfl; exact rfl; intro h H) | ((with_reducible apply stAt0 H 1); exact rfl; exact rfl; intro h H) | ((with_reducible apply stAt H 7); exact rfl; exact rfl; intro h H) | ((with_reducible apply stAt0 H 7); exact rfl; exact rfl; intro h H) | ((with_reducible refine ⟨?_, ?_⟩); first | ((with_reducible apply ldAt H 1); exact rfl; exact rfl; exact rfl) | ((with_reducible apply ldAt0 H 1); exact rfl; exact rfl; exact rfl) | ((with_reducible apply ldAt H 7); exact rfl; exact rfl; exact rfl) | ((with_reducible apply ldAt0 H 7); exact rfl; exact rfl; exact rfl)))
        refine allocAt (cs := []) H fun h c0_ H => ?_
        repeat (first | with_reducible refine nn ?_ | with_reducible refine let_ ?_ | with_reducible refine brSome ?_ | with_reducible refine brF ?_ | with_reducible refine brT ?_ | ((with_reducible apply ldAt H 2); exact rfl; exact rfl) | ((with_reducible apply ldAt0 H 2); exact rfl; exact rfl) | ((with_reducible apply ldAt H 8); exact rfl; exact rfl) | ((with_reducible apply ldAt0 H 8); exact rfl; exact rfl) | ((with_reducible apply stAt H 2); exact rfl; exact rfl; intro h H) | ((with_reducible apply stAt0 H 2); exact rfl; exact rfl; intro h H) | ((with_reducible apply stAt H 8); exact rfl; exact rfl; intro h H) | ((with_reducible apply stAt0 H 8); exact rfl; exact rfl; intro h H) | ((with_reducible refine ⟨?_, ?_⟩); first | ((with_reducible apply ldAt H 2); exact rfl; exact rfl; exact rfl) | ((with_reducible apply ldAt0 H 2); exact rfl; exact rfl; exact rfl) | ((with_reducible apply ldAt H 8); exact rfl; exact rfl; exact rfl) | ((with_reducible apply ldAt0 H 8); exact rfl; exact rfl; exact rfl)))
        have H := nil_ H
        refine appAt (ys := D.vs.take (loI D.vs p.start)) TNum H 0 rfl (rdA 7 H rfl) (by simp; omega) (by simp; omega) fun s_ h H => ?_
        rw [List.nil_append] at H
        repeat (first | with_reducible refine nn ?_ | with_reducible refine let_ ?_ | with_reducible refine brSome ?_ | with_reducible refine brF ?_ | with_reducible refine brT ?_ | ((with_reducible apply ldAt H 2); exact rfl; exact rfl) | ((with_reducible apply ldAt0 H 2); exact rfl; exact rfl) | ((with_reducible apply ldAt H 8); exact rfl; exact rfl) | ((with_reducible apply ldAt0 H 8); exact rfl; exact rfl) | ((with_reducible apply stAt H 2); exact rfl; exact rfl; intro h H) | ((with_reducible apply stAt0 H 2); exact rfl; exact rfl; intro h H) | ((with_reducible apply stAt H 8); exact rfl; exact rfl; intro h H) | ((with_reducible apply stAt0 H 8); exact rfl; exact rfl; intro h H) | ((with_reducible refine ⟨?_, ?_⟩); first | ((with_reducible apply ldAt H 2); exact rfl; exact rfl; exact rfl) | ((with_reducible apply ldAt0 H 2); exact rfl; exact rfl; exact rfl) | ((with_reducible apply ldAt H 8); exact rfl; exact rfl; exact rfl) | ((with_reducible apply ldAt0 H 8); exact rfl; exact rfl; exact rfl)))
        refine app1B (E := eNum) TNum H 0 rfl 1 rfl p.start rfl (by simp; omega) (by simp; omega) fun s_ h H => ?_
        repeat (first | with_reducible refine nn ?_ | with_reducible refine let_ ?_ | with_reducible refine brSome ?_ | with_reducible refine brF ?_ | with_reducible refine brT ?_ | ((with_reducible apply ldAt H 2); exact rfl; exact rfl) | ((with_reducible apply ldAt0 H 2); exact rfl; exact rfl) | ((with_reducible apply ldAt H 8); exact rfl; exact rfl) | ((with_reducible apply ldAt0 H 8); exact rfl; exact rfl) | ((with_reducible apply stAt H 2); exact rfl; exact rfl; intro h H) | ((with_reducible apply stAt0 H 2); exact rfl; exact rfl; intro h H) | ((with_reducible apply stAt H 8); exact rfl; exact rfl; intro h H) | ((with_reducible apply stAt0 H 8); exact rfl; exact rfl; intro h H) | ((with_reducible refine ⟨?_, ?_⟩); first | ((with_reducible apply ldAt H 2); exact rfl; exact rfl; exact rfl) | ((with_reducible apply ldAt0 H 2); exact rfl; exact rfl; exact rfl) | ((with_reducible apply ldAt H 8); exact rfl; exact rfl; exact rfl) | ((with_reducible apply ldAt0 H 8); exact rfl; exact rfl; exact rfl)))
        refine appAt (ys := D.vs.drop (loI D.vs p.start)) TNum H 0 rfl (rdB 7 H rfl) (by simp; omega) (by simp; omega) fun s_ h H => ?_
        exact fin _ _ (H.del 1)
    · have hm : p.start ∈ D.vs := Decidable.byContradiction fun x => by rw [hb.2 x] at hbf; exact nomatch hbf
      have hins : insI D.vs p.start = D.vs := by unfold insI; rw [if_pos hm]
      rw [hins]
      exact ⟨_, H⟩
  rw [if_neg hself] at hR
  repeat (first | with_reducible refine nn ?_ | with_reducible refine let_ ?_ | with_reducible refine brSome ?_ | with_reducible refine brF ?_ | with_reducible refine brT ?_ | ((with_reducible apply ldAt H 0); exact rfl; exact rfl) | ((with_reducible apply ldAt0 H 0); exact rfl; exact rfl) | ((with_reducible apply stAt H 0); exact rfl; exact rfl; intro h H) | ((with_reducible apply stAt0 H 0); exact rfl; exact rfl; intro h H) | ((with_reducible refine ⟨?_, ?_⟩); first | ((with_reducible apply ldAt H 0); exact rfl; exact rfl; exact rfl) | ((with_reducible apply ldAt0 H 0); exact rfl; exact rfl; exact rfl)))
  refine loop1 (s1 := .one (.int .i64)) (fun (y : Int) h5 => ∃ i : Nat, y = i ∧ i ≤ Hd.length ∧ At h0 h5 (ref6 d ty s sN sE sH sF2 sV D E Hd ++ (.blk b1 37 [.int .i64 p.start, .int .i64 p.stamp, .int .i64 p.round, .int .i64 p.at_] :: G)) ∧ ∀ j, (hj : j < Hd.length) → j < i → Hd[j].start = p.start → Hd[j].at_ = p.at_ → Hd[j].round < p.round) (fun (y : Int) _ => (Hd.length - y).toNat)
    ⟨0, rfl, Nat.zero_le _, H, fun j _ hj => absurd hj (Nat.not_lt_zero _)⟩ fun _ (y : Int) h5 hI => ?_
  obtain ⟨i, rfl, hi, H, hno⟩ := hI
  have hhad := hr1.had p.start p.at_ p.round hp1.r1
  refine brD (fun hc => ?_) fun hc => ?_
  · have hi2 : i < Hd.length := by omega
    refine ixAt H 3 rfl i rfl hi2 fun e he => ?_
    repeat (first | with_reducible refine nn ?_ | with_reducible refine let_ ?_ | with_reducible refine brSome ?_ | with_reducible refine brF ?_ | with_reducible refine brT ?_ | ((with_reducible apply ldAt H 0); exact rfl; exact rfl) | ((with_reducible apply ldAt0 H 0); exact rfl; exact rfl) | ((with_reducible apply ldAt H 1); exact rfl; exact rfl) | ((with_reducible apply ldAt0 H 1); exact rfl; exact rfl) | ((with_reducible apply ldAt H 2); exact rfl; exact rfl) | ((with_reducible apply ldAt0 H 2); exact rfl; exact rfl) | ((with_reducible apply ldAt H 3); exact rfl; exact rfl) | ((with_reducible apply ldAt0 H 3); exact rfl; exact rfl) | ((with_reducible apply ldEl H 0); exact rfl; assumption; (case hk => assumption); exact rfl) | ((with_reducible apply ldEl0 H 0); exact rfl; assumption; (case hk => assumption); exact rfl) | ((with_reducible apply ldElS H 0); exact rfl; assumption; (case hk => assumption); exact rfl) | ((with_reducible apply ldElS0 H 0); exact rfl; assumption; (case hk => assumption); exact rfl) | ((with_reducible apply ldEl H 1); exact rfl; assumption; (case hk => assumption); exact rfl) | ((with_reducible apply ldEl0 H 1); exact rfl; assumption; (case hk => assumption); exact rfl) | ((with_reducible apply ldElS H 1); exact rfl; assumption; (case hk => assumption); exact rfl) | ((with_reducible apply ldElS0 H 1); exact rfl; assumption; (case hk => assumption); exact rfl) | ((with_reducible apply ldEl H 2); exact rfl; assumption; (case hk => assumption); exact rfl) | ((with_reducible apply ldEl0 H 2); exact rfl; assumption; (case hk => assumption); exact rfl) | ((with_reducible apply ldElS H 2); exact rfl; assumption; (case hk => assumption); exact rfl) | ((with_reducible apply ldElS0 H 2); exact rfl; assumption; (case hk => assumption); exact rfl) | ((with_reducible apply ldEl H 3); exact rfl; assumption; (case hk => assumption); exact rfl) | ((with_reducible apply ldEl0 H 3); exact rfl; assumption; (case hk => assumption); exact rfl) | ((with_reducible apply ldElS H 3); exact rfl; assumption; (case hk => assumption); exact rfl) | ((with_reducible apply ldElS0 H 3); exact rfl; assumption; (case hk => assumption); exact rfl) | ((with_reducible apply stAt H 0); exact rfl; exact rfl; intro h H) | ((with_reducible apply stAt0 H 0); exact rfl; exact rfl; intro h H) | ((with_reducible apply stAt H 1); exact rfl; exact rfl; intro h H) | ((with_reducible apply stAt0 H 1); exact rfl; exact rfl; intro h H) | ((with_reducible apply stAt H 2); exact rfl; exact rfl; intro h H) | ((with_reducible apply stAt0 H 2); exact rfl; exact rfl; intro h H) | ((with_reducible apply stAt H 3); exact rfl; exact rfl; intro h H) | ((with_reducible apply stAt0 H 3); exact rfl; exact rfl; intro h H) | ((with_reducible apply stElS (E := eCS) ⟨_, _, _⟩ H 0); exact rfl; assumption; (case hk => assumption); exact rfl; (first | exact rfl | (dsimp only [eCS, List.set_cons_succ, List.set_cons_zero] <;> exact rfl)); intro h H) | ((with_reducible apply stElS0 (E := eCS) ⟨_, _, _⟩ H 0); exact rfl; assumption; (case hk => assumption); (first | exact rfl | (dsimp only [eCS, List.set_cons_succ, List.set_cons_zero] <;> exact rfl)); intro h H) | ((with_reducible apply stEl (E := eCS) ⟨_, _, _⟩ H 0); exact rfl; assumption; (case hk => assumption); exact rfl; (first | exact rfl | (dsimp only [eCS, List.set_cons_succ, List.set_cons_zero] <;> exact rfl)); intro h H) | ((with_reducible apply stEl0 (E := eCS) ⟨_, _, _⟩ H 0); exact rfl; assumption; (case hk => assumption); (first | exact rfl | (dsimp only [eCS, List.set_cons_succ, List.set_cons_zero] <;> exact rfl)); intro h H) | ((with_reducible apply stElS (E := eCS) ⟨_, _, _⟩ H 1); exact rfl; assumption; (case hk => assumption); exact rfl; (first | exact rfl | (dsimp only [eCS, List.set_cons_succ, List.set_cons_zero] <;> exact rfl)); intro h H) | ((with_reducible apply stElS0 (E := eCS) ⟨_, _, _⟩ H 1); exact rfl; assumption; (case hk => assumption); (first | exact rfl | (dsimp only [eCS, List.set_cons_succ, List.set_cons_zero] <;> exact rfl)); intro h H) | ((with_reducible apply stEl (E := eCS) ⟨_, _, _⟩ H 1); exact rfl; assumption; (case hk => assumption); exact rfl; (first | exact rfl | (dsimp only [eCS, List.set_cons_succ, List.set_cons_zero] <;> exact rfl)); intro h H) | ((with_reducible apply stEl0 (E := eCS) ⟨_, _, _⟩ H 1); exact rfl; assumption; (case hk => assumption); (first | exact rfl | (dsimp only [eCS, List.set_cons_succ, List.set_cons_zero] <;> exact rfl)); intro h H) | ((with_reducible apply stElS (E := eCS) ⟨_, _, _⟩ H 2); exact rfl; assumption; (case hk => assumption); exact rfl; (first | exact rfl | (dsimp only [eCS, List.set_cons_succ, List.set_cons_zero] <;> exact rfl)); intro h H) | ((with_reducible apply stElS0 (E := eCS) ⟨_, _, _⟩ H 2); exact rfl; assumption; (case hk => assumption); (first | exact rfl | (dsimp only [eCS, List.set_cons_succ, List.set_cons_zero] <;> exact rfl)); intro h H) | ((with_reducible apply stEl (E := eCS) ⟨_, _, _⟩ H 2); exact rfl; assumption; (case hk => assumption); exact rfl; (first | exact rfl | (dsimp only [eCS, List.set_cons_succ, List.set_cons_zero] <;> exact rfl)); intro h H) | ((with_reducible apply stEl0 (E := eCS) ⟨_, _, _⟩ H 2); exact rfl; assumption; (case hk => assumption); (first | exact rfl | (dsimp only [eCS, List.set_cons_succ, List.set_cons_zero] <;> exact rfl)); intro h H) | ((with_reducible apply stElS (E := eCS) ⟨_, _, _⟩ H 3); exact rfl; assumption; (case hk => assumption); exact rfl; (first | exact rfl | (dsimp only [eCS, List.set_cons_succ, List.set_cons_zero] <;> exact rfl)); intro h H) | ((with_reducible apply stElS0 (E := eCS) ⟨_, _, _⟩ H 3); exact rfl; assumption; (case hk => assumption); (first | exact rfl | (dsimp only [eCS, List.set_cons_succ, List.set_cons_zero] <;> exact rfl)); intro h H) | ((with_reducible apply stEl (E := eCS) ⟨_, _, _⟩ H 3); exact rfl; assumption; (case hk => assumption); exact rfl; (first | exact rfl | (dsimp only [eCS, List.set_cons_succ, List.set_cons_zero] <;> exact rfl)); intro h H) | ((with_reducible apply stEl0 (E := eCS) ⟨_, _, _⟩ H 3); exact rfl; assumption; (case hk => assumption); (first | exact rfl | (dsimp only [eCS, List.set_cons_succ, List.set_cons_zero] <;> exact rfl)); intro h H) | ((with_reducible apply allocAt H); intro h b H) | ((with_reducible refine ⟨?_, ?_⟩); first | ((with_reducible apply ldAt H 0); exact rfl; exact rfl; exact rfl) | ((with_reducible apply ldAt0 H 0); exact rfl; exact rfl; exact rfl) | ((with_reducible apply ldAt H 1); exact rfl; exact rfl; exact rfl) | ((with_reducible apply ldAt0 H 1); exact rfl; exact rfl; exact rfl) | ((with_reducible apply ldAt H 2); exact rfl; exact rfl; exact rfl) | ((with_reducible apply ldAt0 H 2); exact rfl; exact rfl; exact rfl) | ((with_reducible apply ldAt H 3); exact rfl; exact rfl; exact rfl) | ((with_reducible apply ldAt0 H 3); exact rfl; exact rfl; exact rfl) | ((with_reducible apply ldEl H 0); exact rfl; assumption; (case hk => assumption); exact rfl; exact rfl) | ((with_reducible apply ldEl0 H 0); exact rfl; assumption; (case hk => assumption); exact rfl; exact rfl) | ((with_reducible apply ldElS H 0); exact rfl; assumption; (case hk => assumption); exact rfl; exact rfl) | ((with_reducible apply ldElS0 H 0); exact rfl; assumption; (case hk => assumption); exact rfl; exact rfl) | ((with_reducible apply ldEl H 1); exact rfl; assumption; (case hk => assumption); exact rfl; exact rfl) | ((with_reducible apply ldEl0 H 1); exact rfl; assumption; (case hk => assumption); exact rfl; exact rfl) | ((with_reducible apply ldElS H 1); exact rfl; assumption; (case hk => assumption); exact rfl; exact rfl) | ((with_reducible apply ldElS0 H 1); exact rfl; assumption; (case hk => assumption); exact rfl; exact rfl) | ((with_reducible apply ldEl H 2); exact rfl; assumption; (case hk => assumption); exact rfl; exact rfl) | ((with_reducible apply ldEl0 H 2); exact rfl; assumption; (case hk => assumption); exact rfl; exact rfl) | ((with_reducible apply ldElS H 2); exact rfl; assumption; (case hk => assumption); exact rfl; exact rfl) | ((with_reducible apply ldElS0 H 2); exact rfl; assumption; (case hk => assumption); exact rfl; exact rfl) | ((with_reducible apply ldEl H 3); exact rfl; assumption; (case hk => assumption); exact rfl; exact rfl) | ((with_reducible apply ldEl0 H 3); exact rfl; assumption; (case hk => assumption); exact rfl; exact rfl) | ((with_reducible apply ldElS H 3); exact rfl; assumption; (case hk => assumption); exact rfl; exact rfl) | ((with_reducible apply ldElS0 H 3); exact rfl; assumption; (case hk => assumption); exact rfl; exact rfl)))
    repeat (first | with_reducible refine nn ?_ | with_reducible refine let_ ?_ | with_reducible refine brSome ?_ | with_reducible refine brF ?_ | with_reducible refine brT ?_ | ((with_reducible apply ldAt H 7); exact rfl; exact rfl) | ((with_reducible apply ldAt0 H 7); exact rfl; exact rfl) | ((with_reducible apply stAt H 7); exact rfl; exact rfl; intro h H) | ((with_reducible apply stAt0 H 7); exact rfl; exact rfl; intro h H) | ((with_reducible refine ⟨?_, ?_⟩); first | ((with_reducible apply ldAt H 7); exact rfl; exact rfl; exact rfl) | ((with_reducible apply ldAt0 H 7); exact rfl; exact rfl; exact rfl)))
    have next : ¬ (Hd[i].start = p.start ∧ Hd[i].at_ = p.at_ ∧ p.round ≤ Hd[i].round) → ∀ j, (hj : j < Hd.length) → j < i + 1 → Hd[j].start = p.start → Hd[j].at_ = p.at_ → Hd[j].round < p.round := fun h6 j hj hji h7 h8 => by
      by_cases e : j < i
      · exact hno j hj e h7 h8
      · obtain rfl : j = i := by omega
        exact Int.not_le.1 fun h9 => h6 ⟨h7, h8, h9⟩
    rw [w64 (by omega) (by omega)]
    refine br beq_iff_eq (fun h6 => ?_) fun h6 => ⟨⟨i + 1, by omega, by omega, H.tail, next fun x => h6 x.1⟩, by omega⟩
    repeat (first | with_reducible refine nn ?_ | with_reducible refine let_ ?_ | with_reducible refine brSome ?_ | with_reducible refine brF ?_ | with_reducible refine brT ?_ | ((with_reducible apply ldAt H 0); exact rfl; exact rfl) | ((with_reducible apply ldAt0 H 0); exact rfl; exact rfl) | ((with_reducible apply ldAt H 7); exact rfl; exact rfl) | ((with_reducible apply ldAt0 H 7); exact rfl; exact rfl) | ((with_reducible apply stAt H 0); exact rfl; exact rfl; intro h H) | ((with_reducible apply stAt0 H 0); exact rfl; exact rfl; intro h H) | ((with_reducible apply stAt H 7); exact rfl; exact rfl; intro h H) | ((with_reducible apply stAt0 H 7); exact rfl; exact rfl; intro h H) | ((with_reducible refine ⟨?_, ?_⟩); first | ((with_reducible apply ldAt H 0); exact rfl; exact rfl; exact rfl) | ((with_reducible apply ldAt0 H 0); exact rfl; exact rfl; exact rfl) | ((with_reducible apply ldAt H 7); exact rfl; exact rfl; exact rfl) | ((with_reducible apply ldAt0 H 7); exact rfl; exact rfl; exact rfl)))
    refine br beq_iff_eq (fun h7 => ?_) fun h7 => ⟨⟨i + 1, by omega, by omega, H.tail, next fun x => h7 x.2.1⟩, by omega⟩
    repeat (first | with_reducible refine nn ?_ | with_reducible refine let_ ?_ | with_reducible refine brSome ?_ | with_reducible refine brF ?_ | with_reducible refine brT ?_ | ((with_reducible apply ldAt H 0); exact rfl; exact rfl) | ((with_reducible apply ldAt0 H 0); exact rfl; exact rfl) | ((with_reducible apply ldAt H 7); exact rfl; exact rfl) | ((with_reducible apply ldAt0 H 7); exact rfl; exact rfl) | ((with_reducible apply stAt H 0); exact rfl; exact rfl; intro h H) | ((with_reducible apply stAt0 H 0); exact rfl; exact rfl; intro h H) | ((with_reducible apply stAt H 7); exact rfl; exact rfl; intro h H) | ((with_reducible apply stAt0 H 7); exact rfl; exact rfl; intro h H) | ((with_reducible refine ⟨?_, ?_⟩); first | ((with_reducible apply ldAt H 0); exact rfl; exact rfl; exact rfl) | ((with_reducible apply ldAt0 H 0); exact rfl; exact rfl; exact rfl) | ((with_reducible apply ldAt H 7); exact rfl; exact rfl; exact rfl) | ((with_reducible apply ldAt0 H 7); exact rfl; exact rfl; exact rfl)))
    refine brD (fun h8 => ?_) fun h8 => ⟨⟨i + 1, by omega, by omega, H.tail, next fun x => h8 x.2.2⟩, by omega⟩
    have h9 := hhad.1 ⟨_, List.getElem_mem hi2, h6, h7, h8⟩
    rw [if_neg (by omega)] at hR
    exact hR _ _ _ _ _ (H.tail.del 6) hr1 (by omega)
  · have hlt : D.seen p.start p.at_ < p.round := Int.not_le.1 fun h6 => by
      obtain ⟨s, hs, h7, h8, h9⟩ := hhad.2 h6
      obtain ⟨j, hj, rfl⟩ := List.getElem_of_mem hs
      have := hno j hj (by omega) h7 h8
      omega
    rw [if_pos hlt] at hR
    repeat (first | with_reducible refine nn ?_ | with_reducible refine let_ ?_ | with_reducible refine brSome ?_ | with_reducible refine brF ?_ | with_reducible refine brT ?_ | ((with_reducible apply ldAt H 0); exact rfl; exact rfl) | ((with_reducible apply ldAt0 H 0); exact rfl; exact rfl) | ((with_reducible apply ldAt H 6); exact rfl; exact rfl) | ((with_reducible apply ldAt0 H 6); exact rfl; exact rfl) | ((with_reducible apply stAt H 0); exact rfl; exact rfl; intro h H) | ((with_reducible apply stAt0 H 0); exact rfl; exact rfl; intro h H) | ((with_reducible apply stAt H 6); exact rfl; exact rfl; intro h H) | ((with_reducible apply stAt0 H 6); exact rfl; exact rfl; intro h H) | ((with_reducible refine ⟨?_, ?_⟩); first | ((with_reducible apply ldAt H 0); exact rfl; exact rfl; exact rfl) | ((with_reducible apply ldAt0 H 0); exact rfl; exact rfl; exact rfl) | ((with_reducible apply ldAt H 6); exact rfl; exact rfl; exact rfl) | ((with_reducible apply ldAt0 H 6); exact rfl; exact rfl; exact rfl)))
    refine allocAt (cs := [.int .i64 p.start, .int .i64 p.at_, .int .i64 p.round]) H fun h b2 H => ?_
    repeat (first | with_reducible refine nn ?_ | with_reducible refine let_ ?_ | with_reducible refine brSome ?_ | with_reducible refine brF ?_ | with_reducible refine brT ?_ | ((with_reducible apply ldAt H 1); exact rfl; exact rfl) | ((with_reducible apply ldAt0 H 1); exact rfl; exact rfl) | ((with_reducible apply stAt H 1); exact rfl; exact rfl; intro h H) | ((with_reducible apply stAt0 H 1); exact rfl; exact rfl; intro h H) | ((with_reducible refine ⟨?_, ?_⟩); first | ((with_reducible apply ldAt H 1); exact rfl; exact rfl; exact rfl) | ((with_reducible apply ldAt0 H 1); exact rfl; exact rfl; exact rfl)))
    refine app1B (E := eCS) TCS H 4 rfl 0 rfl ⟨p.start, p.at_, p.round⟩ rfl (by omega) (by omega) fun s3 h H => ?_
    repeat (first | with_reducible refine nn ?_ | with_reducible refine let_ ?_ | with_reducible refine brSome ?_ | with_reducible refine brF ?_ | with_reducible refine brT ?_ | ((with_reducible apply ldAt H 1); exact rfl; exact rfl) | ((with_reducible apply ldAt0 H 1); exact rfl; exact rfl) | ((with_reducible apply ldAt H 7); exact rfl; exact rfl) | ((with_reducible apply ldAt0 H 7); exact rfl; exact rfl) | ((with_reducible apply stAt H 1); exact rfl; exact rfl; intro h H) | ((with_reducible apply stAt0 H 1); exact rfl; exact rfl; intro h H) | ((with_reducible apply stAt H 7); exact rfl; exact rfl; intro h H) | ((with_reducible apply stAt0 H 7); exact rfl; exact rfl; intro h H) | ((with_reducible refine ⟨?_, ?_⟩); first | ((with_reducible apply ldAt H 1); exact rfl; exact rfl; exact rfl) | ((with_reducible apply ldAt0 H 1); exact rfl; exact rfl; exact rfl) | ((with_reducible apply ldAt H 7); exact rfl; exact rfl; exact rfl) | ((with_reducible apply ldAt0 H 7); exact rfl; exact rfl; exact rfl)))
    have H : At h0 h (ref6 d ty s sN sE s3 sF2 sV { D with seen := fun x a => if x = p.start ∧ a = p.at_ then p.round else D.seen x a } E (Hd ++ [⟨p.start, p.at_, p.round⟩]) ++ (.blk b1 37 [.int .i64 p.start, .int .i64 p.stamp, .int .i64 p.round, .int .i64 p.at_] :: G)) := H.tail
    have ho2 : COk s N { D with seen := fun x a => if x = p.start ∧ a = p.at_ then p.round else D.seen x a } := by
      have := ho1.dlv hp1
      unfold kDlv at this
      rw [if_neg hself, if_pos hlt] at this
      refine ⟨this.len, this.uniq, this.ns, fun q hq => ?_, this.seen, this.vs⟩
      exact (ho1.fls q hq).grow (.refl _)
    refine ref14_send_ok (C := { D with seen := fun x a => if x = p.start ∧ a = p.at_ then p.round else D.seen x a }) (p := p) H ho2 (hr1.seenUp hp1.r1 hlt) hp1.at_ hEl (by show D.fl.length ≤ _; omega) fun h7 sF3 H => ?_
    exact hR _ _ _ _ _ (H.del 6) ((hr1.seenUp hp1.r1 hlt).rest _ _) (by rw [List.length_append, List.length_singleton]; exact Nat.le_refl _)
end
end Go.Proofs.Ytmpekddpehhdnaa
