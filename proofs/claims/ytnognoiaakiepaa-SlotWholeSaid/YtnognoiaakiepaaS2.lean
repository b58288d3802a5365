/-
  Layer 33 (slot): contracts of the program's calls, and of the document's.
-/
import Derived.Test.YtnognoiaakiepaaS1
import Derived.Test.YtnognoiaakiepaaD1
import Derived.Test.YtnognoiaakiepaaF2
import Derived.Test.YtnognoiaakiepaaWb
import Derived.Test.YtnognoiaakiepaaSS
namespace Go.Proofs.Ytnognoiaakiepaa
open Go

/-- How a pair lies. -/
structure PS where
  tp : TypeId
  d0 : Nat
  t0 : TypeId
  s0 : Sl
  d1 : Nat
  t1 : TypeId
  s1 : Sl
def PS.d (z : PS) (k : Nat) : Nat := if k = 0 then z.d0 else z.d1
def pairB (p : Nat) (z : PS) : Res := .blk p z.tp [.pointer (some ⟨z.d0, 0, none⟩), .pointer (some ⟨z.d1, 0, none⟩)]
def pairL (p : Nat) (z : PS) (a b : List UInt8) : List Res := pairB p z :: (diskL z.d0 z.t0 z.s0 a a.length ++ diskL z.d1 z.t1 z.s1 b b.length)
section
variable {h0 h : Heap} {F : List Res} {d : Nat} {ty : TypeId} {s : Sl} {b : List UInt8} {n : Nat}
theorem slot_whole_ok {R : Sl → Int → Heap → Prop} (H : At h0 h (diskL d ty s b n ++ F)) (hl : b.length ≤ 1048576) (hR : ∀ r h', Own h' 1 r (cB (wholeS b).1) → r.from_ h.size → Ext h.size h h' → R r ((wholeS b).2 : Nat) h') : C_slot_whole (some ⟨d, 0, none⟩) h R := by
  refine A_slot_whole ?_
  unfold S_slot_whole
  have none_ : wholeS b = ([], 0) → ∀ h', Ext h.size h h' → R ⟨none, 0, 0⟩ 0 h' := fun e h' E => by
    have := hR ⟨none, 0, 0⟩ h' (by rw [e]; exact Own.nil _ _) (fun g hg => by simp [Sl.blk] at hg) E
    rwa [e] at this
  refine disk_Bytes_ok H hl fun r1 h1 o1 f1 e1 => ?_
  refine frame_Whole_ok o1.rd o1.2.1 (by omega) fun r2 h2 o2 f2 e2 => ?_
  have E2 := e1.trans (e2.mono e1.1)
  refine brB (fun hne => ?_) fun hz => ?_
  · exact none_ (by unfold wholeS; rw [if_pos (by simpa using hne)]) h2 E2
  · have ew : wholeS b = numM (wholeM b).1 := by unfold wholeS; rw [if_neg (by simpa using hz)]
    rw [ew] at none_ hR
    have hn2 := rd_b o2.rd
    generalize (wholeM b).1 = p at *
    refine word_Read_ok (At.start h2) fun q ty' h3 H3 => ?_
    have hsrc : Src h2 q [] r2 p := fun _ _ _ H => H.arg o2.rd
    refine word_Int_ok H3 (RdF.self o2.rd o2.2.1) hsrc fun h4 s4 H4 r4 => ?_
    refine word_Fail_ok H4 ?_
    have E4 : Ext h.size h h4 := E2.trans (H4.ext.mono E2.1)
    rcases mInt_cases p 1 1099511627776 with hm | ⟨h8, v, hm, hv1, hv2⟩
    · rw [hm]
      exact brY rfl (none_ (numM_bad hm) h4 E4)
    · rw [hm]
      refine brN rfl ?_
      have o4 : Own h4 1 r2 (cB p) := o2.ext' H4.ext
      refine cutBO o4 8 r2.n r2.c (loi rfl) (hi0 _) (.inl ⟨rfl, rfl⟩) (by omega) (by omega) o4.2.1 (Nat.le_refl _) fun s' o' n' c' b' => ?_
      rw [List.take_of_length_le (by rw [List.length_drop]; omega)] at o'
      have en : numM p = (p.drop 8, v.toNat) := by unfold numM; rw [hm]
      rw [en] at hR
      have := hR s' h4 o' (fun g hg => Nat.le_trans e1.1 (f2 g (by rw [← b']; exact hg))) E4
      rwa [show ((v.toNat : Nat) : Int) = v by omega] at this
end
section
variable {h0 h : Heap} {F : List Res} {p : Nat} {z : PS} {a b : List UInt8}
theorem At.disk0 (H : At h0 h (pairL p z a b ++ F)) : At h0 h (diskL z.d0 z.t0 z.s0 a a.length ++ (pairB p z :: diskL z.d1 z.t1 z.s1 b b.length ++ F)) := H.mv 1 2
theorem At.disk1 (H : At h0 h (pairL p z a b ++ F)) : At h0 h (diskL z.d1 z.t1 z.s1 b b.length ++ (pairB p z :: diskL z.d0 z.t0 z.s0 a a.length ++ F)) := H.mv 3 2
theorem ldSlot {i : Int} {K : Option Addr → Prop} (H : At h0 h (pairL p z a b ++ F)) (k : Nat) (hk : k < 2) (hi : i = (k : Int)) (hK : K (some ⟨z.d k, 0, none⟩)) : IxA ⟨p, 0, none⟩ 2 i 1 fun e => Ld .ptr h e K := by
  subst hi
  refine ⟨by omega, by omega, ?_⟩
  rw [Int.toNat_natCast, Nat.mul_one]
  refine ldAt H 0 rfl _ ?_ hK
  match k, hk with
  | 0, _ => rfl
  | 1, _ => rfl
/-- One of both slots comes to the front; what is done with it is done with the pair. -/
theorem At.slot (H : At h0 h (pairL p z a b ++ F)) (k : Nat) (hk : k < 2) : ∃ ty s G, At h0 h (diskL (z.d k) ty s (selS k a b) (selS k a b).length ++ (G ++ F)) ∧
    ∀ h' F' ty' s' t, At h0 h' (diskL (z.d k) ty' s' t t.length ++ (G ++ F')) → ∃ z', At h0 h' (pairL p z' (twoS k a b t).1 (twoS k a b t).2 ++ F') := by
  match k, hk with
  | 0, _ => exact ⟨_, _, pairB p z :: diskL z.d1 z.t1 z.s1 b b.length, H.disk0, fun h' F' ty' s' t H' => ⟨{ z with t0 := ty', s0 := s' }, (H'.mv 2 1 :)⟩⟩
  | 1, _ => exact ⟨_, _, pairB p z :: diskL z.d0 z.t0 z.s0 a a.length, H.disk1, fun h' F' ty' s' t H' => ⟨{ z with t1 := ty', s1 := s' }, (H'.mv 2 3 :)⟩⟩
theorem slot_New_ok {L : List Res} {R : Option Addr → Heap → Prop} (H : At h0 h L) (hR : ∀ h' p z, At h0 h' (pairL p z [] [] ++ L) → R (some ⟨p, 0, none⟩) h') : C_slot_New h R := by
  refine A_slot_New ?_
  unfold S_slot_New
  refine disk_New_ok H fun h1 d0 t0 H => disk_New_ok H fun h2 d1 t1 H => ?_
  refine allocAt H fun h3 p H => ?_
  have H4 := H.mv 3 2
  have H5 := H4.mv 2 1
  exact hR h3 p ⟨_, d0, t0, _, d1, t1, _⟩ H5
theorem slot_newest_ok {R : Int → Sl → Int → Heap → Prop} (H : At h0 h (pairL p z a b ++ F)) (ha : a.length ≤ 1048576) (hb : b.length ≤ 1048576)
    (hR : ∀ r h', Own h' 1 r (cB (newestS a b).2.1) → r.from_ h.size → Ext h.size h h' → R ((newestS a b).1 : Nat) r ((newestS a b).2.2 : Nat) h') : C_slot_Pair_newest (some ⟨p, 0, none⟩) h R := by
  refine A_slot_Pair_newest ?_
  unfold S_slot_Pair_newest
  refine nn (ldSlot H 0 (by decide) rfl ?_)
  refine slot_whole_ok H.disk0 ha fun r1 h1 o1 f1 e1 => ?_
  have H1 := H.ext' e1
  refine nn (ldSlot H1 1 (by decide) rfl ?_)
  refine slot_whole_ok H1.disk1 hb fun r2 h2 o2 f2 e2 => ?_
  have E := e1.trans (e2.mono e1.1)
  unfold newestS at hR
  refine brD (fun hc => ?_) fun hc => ?_
  · rw [if_pos (by omega)] at hR
    exact hR r2 h2 o2 (fun g hg => Nat.le_trans e1.1 (f2 g hg)) E
  · rw [if_neg (by omega)] at hR
    exact hR r1 h2 (o1.ext' e2) f1 E
theorem slot_Read_ok {R : Sl → Int → Int → Heap → Prop} (H : At h0 h (pairL p z a b ++ F)) (ha : a.length ≤ 1048576) (hb : b.length ≤ 1048576)
    (hR : ∀ r h', Own h' 1 r (cB (newestS a b).2.1) → r.from_ h.size → Ext h.size h h' → R r ((newestS a b).2.2 : Nat) (if (newestS a b).2.2 = 0 then 6 else 0) h') : C_slot_Pair_Read (some ⟨p, 0, none⟩) h R := by
  refine A_slot_Pair_Read ?_
  unfold S_slot_Pair_Read
  refine brSome (slot_newest_ok H ha hb fun r h' o f e => ?_)
  refine br beq_iff_eq (fun hz => ?_) fun hz => ?_
  · have h0 : (newestS a b).2.2 = 0 := by omega
    have := hR ⟨none, 0, 0⟩ h' (by rw [(newestS_le a b).2.2 h0]; exact Own.nil _ _) (fun g hg => by simp [Sl.blk] at hg) e
    rw [if_pos h0, h0] at this
    exact this
  · have := hR r h' o f e
    rw [if_neg (by omega)] at this
    exact this
theorem slot_Read_nil {R : Sl → Int → Int → Heap → Prop} (hR : R ⟨none, 0, 0⟩ 0 1 h) : C_slot_Pair_Read none h R := A_slot_Pair_Read hR
theorem slot_Bytes_nil {i : Int} {R : Sl → Heap → Prop} (hR : R ⟨none, 0, 0⟩ h) : C_slot_Pair_Bytes none i h R := A_slot_Pair_Bytes hR
theorem slot_Bytes_ok {i : Int} {R : Sl → Heap → Prop} (H : At h0 h (pairL p z a b ++ F)) (ha : a.length ≤ 1048576) (hb : b.length ≤ 1048576) (k : Nat) (hk : k < 2) (hi : i = (k : Int))
    (hR : ∀ r h', Own h' 1 r (cB (selS k a b)) → r.from_ h.size → Ext h.size h h' → R r h') : C_slot_Pair_Bytes (some ⟨p, 0, none⟩) i h R := by
  refine A_slot_Pair_Bytes ?_
  unfold S_slot_Pair_Bytes
  refine brSome (brD (fun hc => by omega) fun _ => brD (fun hc => by omega) fun _ => nn (ldSlot H k hk hi ?_))
  obtain ⟨ty, s, G, H1, _⟩ := H.slot k hk
  exact disk_Bytes_ok H1 (by unfold selS; split <;> assumption) hR
theorem slot_Spoil_ok {i at_ by_ : Int} {c : UInt8} {R : Int → Heap → Prop} (H : At h0 h (pairL p z a b ++ F)) (hc : by_ = (c.toNat : Int)) (h1 : (i < 0 ∨ 2 ≤ i) → R 6 h) (h2 : ∀ k : Nat, i = k → k < 2 → (at_ < 0 ∨ ((selS k a b).length : Int) ≤ at_) → R 5 h)
    (h3 : ∀ k j : Nat, i = k → k < 2 → at_ = j → j < (selS k a b).length → ∀ h' z', At h0 h' (pairL p z' (twoS k a b (flp (selS k a b) j c)).1 (twoS k a b (flp (selS k a b) j c)).2 ++ F) → R 0 h') : C_slot_Pair_Spoil (some ⟨p, 0, none⟩) i at_ by_ h R := by
  refine A_slot_Pair_Spoil ?_
  unfold S_slot_Pair_Spoil
  refine join0 (fun h' => h' = h ∧ 0 ≤ i ∧ i < 2) (fun _ h' hJ => ?_) ?_
  · obtain ⟨rfl, hi1, hi2⟩ := hJ
    obtain ⟨k, rfl⟩ : ∃ k : Nat, i = k := ⟨i.toNat, by omega⟩
    have hk : k < 2 := by omega
    refine nn (ldSlot H k hk rfl ?_)
    obtain ⟨ty, s, G, H1, back⟩ := H.slot k hk
    refine disk_Spoil_ok H1 hc (Nat.le_refl _) (h2 k rfl hk) fun j hj hlt h' H2 => ?_
    have e : (selS k a b).length = (flp (selS k a b) j c).length := (flp_length ..).symm
    rw [e] at H2
    obtain ⟨z', H3⟩ := back h' F _ _ _ H2
    exact h3 k j rfl hk hj hlt h' z' H3
  · exact brSome (brD (fun hc => h1 (.inl hc)) fun hc => brD (fun hc => h1 (.inr hc)) fun hc2 => ⟨rfl, by omega, by omega⟩)
end
section
variable {h0 h : Heap} {F : List Res} {d : Nat} {ty : TypeId} {s : Sl} {b : List UInt8} {n : Nat}
theorem slot_does_ok {x : Sl} {f : List UInt8} {most : Int} {R : Heap → Prop} (H : At h0 h (diskL d ty s b n ++ F)) (hx : ∀ h' s' b' n', At h0 h' (diskL d ty s' b' n' ++ F) → RdS h' 1 x (cB f)) (hf : f.length ≤ 1048576)
    (hR : ∀ h' s', At h0 h' (diskL d ty s' (doesS b n f most).1 (doesS b n f most).2 ++ F) → R h') : C_slot_does (some ⟨d, 0, none⟩) x most h R := by
  refine A_slot_does ?_
  unfold S_slot_does
  unfold doesS at hR
  refine join0 (fun h' => if most ≤ 0 then h' = h else ∃ s', At h0 h' (diskL d ty s' [] 0 ++ F)) (fun _ h' hJ => ?_) ?_
  · by_cases h0' : most ≤ 0
    · rw [if_pos h0'] at hJ hR
      subst hJ
      exact brD (fun hc => by omega) fun _ => brD (fun hc => by omega) fun _ => hR h' s H
    · rw [if_neg h0'] at hJ hR
      obtain ⟨s1, H1⟩ := hJ
      refine brD (fun hc => ?_) fun hc => ?_
      · rw [if_neg (by omega)] at hR
        refine disk_Write_ok H1 (hx _ _ _ _ H1) (by simp) (by omega) (fun hb => by simp at hb; omega) fun _ h2 s2 H2 => ?_
        rw [List.nil_append] at H2
        refine brD (fun hc2 => ?_) fun hc2 => ?_
        · rw [if_neg (by omega)] at hR
          exact disk_Sync_ok H2 fun h3 H3 => hR h3 s2 H3
        · rw [if_pos (by omega)] at hR
          exact hR h2 s2 H2
      · rw [if_pos (by omega)] at hR
        exact brD (fun hc => by omega) fun _ => hR h' s1 H1
  · refine brD (fun hc => ?_) fun hc => ?_
    · refine disk_Cut_ok H (fun hb => by omega) fun k hk hkb h' s' H' => ?_
      obtain rfl : k = 0 := by omega
      rw [if_neg (by omega)]
      exact ⟨s', H'⟩
    · show (if most ≤ 0 then h = h else ∃ s', At h0 h (diskL d ty s' [] 0 ++ F))
      rw [if_pos (by omega)]
theorem slot_fall_ok {keep at_ by_ : Int} {c : UInt8} {R : Heap → Prop} (H : At h0 h (diskL d ty s b n ++ F)) (hby : by_ = (c.toNat : Int)) (hnb : n ≤ b.length) (hl : b.length ≤ 1048576)
    (hR : ∀ h' s', At h0 h' (diskL d ty s' (crashL b n keep at_ c) (crashL b n keep at_ c).length ++ F) → R h') : C_slot_fall (some ⟨d, 0, none⟩) keep at_ by_ h R := by
  refine A_slot_fall ?_
  unfold S_slot_fall
  exact disk_Crash_ok H hby hnb hl fun h1 s1 H1 => disk_Sync_ok H1 fun h2 H2 => hR h2 s1 H2
end
section
variable {h0 h : Heap} {F : List Res} {p : Nat} {z : PS} {a b : List UInt8}
theorem slot_goal_ok {c : Sl} {xs : List UInt8} {R : Option Addr → Sl → Int → Heap → Prop} (H : At h0 h (pairL p z a b ++ F)) (hx : RdS h 1 c (cB xs)) (ha : a.length ≤ 1048576) (hb : b.length ≤ 1048576)
    (h1 : 4088 < xs.length → R none ⟨none, 0, 0⟩ 4 h) (h2 : xs.length ≤ 4088 → 1099511627776 ≤ (newestS a b).2.2 → ∀ h', Ext h.size h h' → R none ⟨none, 0, 0⟩ 7 h')
    (h3 : xs.length ≤ 4088 → (newestS a b).2.2 < 1099511627776 → ∀ r h', Own h' 1 r (cB (slotB ((newestS a b).2.2 + 1) xs)) → r.from_ h.size → Ext h.size h h' → R (some ⟨z.d (atS a b), 0, none⟩) r 0 h') : C_slot_Pair_goal (some ⟨p, 0, none⟩) c h R := by
  refine A_slot_Pair_goal ?_
  unfold S_slot_Pair_goal
  have hn := rd_b hx
  refine brSome (brD (fun hc => h1 (by omega)) fun hc => ?_)
  refine slot_newest_ok H ha hb fun r1 h1' o1 f1 e1 => ?_
  have hle := newestS_le a b
  refine join1 (s1 := .one (.int .i64)) (fun (x : Int) h' => h' = h1' ∧ x = (atS a b : Nat) ∧ (newestS a b).2.2 < 1099511627776) (fun _ (x : Int) h' hJ => ?_) ?_
  · obtain ⟨rfl, rfl, hlt⟩ := hJ
    rw [w64 (by omega) (by omega)]
    refine word_IntP (xs := []) (Own.nil _ _) (by decide) fun s2 h2' o2 g2 => ?_
    rw [List.nil_append] at o2
    have e2 : Ext h'.size h' h2' := g2.upd.ext (Nat.le_refl _) fun g _ e => by simp [Sl.blk] at e
    have hx2 : RdS h2' 1 c (cB xs) := (hx.ext' e1).ext' e2
    refine appB o2 hx2 (by rw [be8_length]; omega) fun s3 h3' o3 g3 => ?_
    have f2 : s2.from_ h'.size := by
      rcases g2.blk with e | e
      · intro g hg; rw [e] at hg; simp [Sl.blk] at hg
      · exact e
    have e3 : Ext h'.size h2' h3' := g3.upd.ext e2.1 fun g hg e => by have := f2 g e; omega
    have E3 : Ext h'.size h' h3' := e2.trans e3
    refine frame_Put_ok (x := []) (Own.nil _ _) o3.rd (fun _ g _ e => by simp [Sl.blk] at e) (by decide) (fun hx => by rw [List.length_append, be8_length] at hx; omega) fun _ r4 h4' o4 g4 => ?_
    rw [List.nil_append] at o4
    have e4 : Ext h3'.size h3' h4' := g4.upd.ext (Nat.le_refl _) fun g _ e => by simp [Sl.blk] at e
    have f4 : r4.from_ h3'.size := by
      rcases g4.blk with e | e
      · intro g hg; rw [e] at hg; simp [Sl.blk] at hg
      · exact e
    have E4 : Ext h.size h h4' := e1.trans ((E3.trans (e4.mono E3.1)).mono e1.1)
    refine nn (ldSlot (H.ext' E4) (atS a b) (atS_lt a b) rfl ?_)
    exact h3 (by omega) hlt r4 h4' o4 (fun g hg => Nat.le_trans e1.1 (Nat.le_trans E3.1 (f4 g hg))) E4
  · refine brD (fun hc2 => h2 (by omega) (by omega) h1' e1) fun hc2 => brD (fun hc3 => let_ ⟨rfl, ?_, by omega⟩) fun hc3 => ⟨rfl, ?_, by omega⟩
    · unfold atS
      rw [if_pos (by omega), w64 (by omega) (by omega)]
      omega
    · unfold atS
      rw [if_neg (by omega)]
theorem slot_Install_ok {c : Sl} {xs : List UInt8} {R : Int → Heap → Prop} (H : At h0 h (pairL p z a b ++ F)) (hx : RdS h 1 c (cB xs)) (ha : a.length ≤ 1048576) (hb : b.length ≤ 1048576)
    (h1 : 4088 < xs.length → R 4 h) (h2 : xs.length ≤ 4088 → 1099511627776 ≤ (newestS a b).2.2 → ∀ h', At h0 h' (pairL p z a b ++ F) → R 7 h')
    (h3 : xs.length ≤ 4088 → (newestS a b).2.2 < 1099511627776 → ∀ h' z', At h0 h' (pairL p z' (twoS (atS a b) a b (slotB ((newestS a b).2.2 + 1) xs)).1 (twoS (atS a b) a b (slotB ((newestS a b).2.2 + 1) xs)).2 ++ F) → R 0 h') : C_slot_Pair_Install (some ⟨p, 0, none⟩) c h R := by
  refine A_slot_Pair_Install ?_
  unfold S_slot_Pair_Install
  refine slot_goal_ok H hx ha hb (fun hl => brN rfl (h1 hl)) (fun hl hn h' e => brN rfl (h2 hl hn h' (H.ext' e))) fun hl hn r h' o f e => brY rfl ?_
  have hfl := slotB_length ((newestS a b).2.2 + 1) xs
  generalize slotB ((newestS a b).2.2 + 1) xs = fr at *
  have H2 := ((H.new e (r := .own r 1 (cB fr)) o f).mv 1 5)
  obtain ⟨ty, s, G, H3, back⟩ := At.slot (F := .own r 1 (cB fr) :: F) H2 (atS a b) (atS_lt a b)
  refine slot_does_ok (f := fr) H3 (fun h' s' b' n' H' => ?_) (by omega) fun h4 s4 H4 => ?_
  · refine Own.rd (H'.get (r := .own r 1 (cB fr)) (2 + G.length) ?_)
    show ((diskL (z.d (atS a b)) ty s' b' n') ++ (G ++ _))[2 + G.length]? = _
    rw [List.getElem?_append_right (by simp [diskL]), List.getElem?_append_right (by simp [diskL])]
    simp [diskL]
  · obtain ⟨z', H5⟩ := back h4 _ _ _ _ H4
    exact h3 hl hn h4 z' (H5.del 5)
theorem slot_Torn_ok {c : Sl} {xs : List UInt8} {most keep at_ by_ : Int} {y : UInt8} {R : Int → Heap → Prop} (H : At h0 h (pairL p z a b ++ F)) (hx : RdS h 1 c (cB xs)) (hby : by_ = (y.toNat : Int)) (ha : a.length ≤ 1048576) (hb : b.length ≤ 1048576)
    (h1 : 4088 < xs.length → R 4 h) (h2 : xs.length ≤ 4088 → 1099511627776 ≤ (newestS a b).2.2 → ∀ h', At h0 h' (pairL p z a b ++ F) → R 7 h')
    (h3 : xs.length ≤ 4088 → (newestS a b).2.2 < 1099511627776 → ∀ h' z', At h0 h' (pairL p z' (twoS (atS a b) a b (tornS (selS (atS a b) a b) (slotB ((newestS a b).2.2 + 1) xs) most keep at_ y)).1 (twoS (atS a b) a b (tornS (selS (atS a b) a b) (slotB ((newestS a b).2.2 + 1) xs) most keep at_ y)).2 ++ F) → R 0 h') :
    C_slot_Pair_Torn (some ⟨p, 0, none⟩) c most keep at_ by_ h R := by
  refine A_slot_Pair_Torn ?_
  unfold S_slot_Pair_Torn
  refine slot_goal_ok H hx ha hb (fun hl => brN rfl (h1 hl)) (fun hl hn h' e => brN rfl (h2 hl hn h' (H.ext' e))) fun hl hn r h' o f e => brY rfl ?_
  have hfl := slotB_length ((newestS a b).2.2 + 1) xs
  generalize slotB ((newestS a b).2.2 + 1) xs = fr at *
  have H2 := ((H.new e (r := .own r 1 (cB fr)) o f).mv 1 5)
  have hsl : (selS (atS a b) a b).length ≤ 1048576 := by unfold selS; split <;> assumption
  obtain ⟨ty, s, G, H3, back⟩ := At.slot (F := .own r 1 (cB fr) :: F) H2 (atS a b) (atS_lt a b)
  refine slot_does_ok (f := fr) H3 (fun h' s' b' n' H' => ?_) (by omega) fun h4 s4 H4 => ?_
  · refine Own.rd (H'.get (r := .own r 1 (cB fr)) (2 + G.length) ?_)
    show ((diskL (z.d (atS a b)) ty s' b' n') ++ (G ++ _))[2 + G.length]? = _
    rw [List.getElem?_append_right (by simp [diskL]), List.getElem?_append_right (by simp [diskL])]
    simp [diskL]
  · have hdl : (doesS (selS (atS a b) a b) (selS (atS a b) a b).length fr most).2 ≤ (doesS (selS (atS a b) a b) (selS (atS a b) a b).length fr most).1.length ∧ (doesS (selS (atS a b) a b) (selS (atS a b) a b).length fr most).1.length ≤ 1048576 := by
      unfold doesS
      split
      · exact ⟨Nat.le_refl _, hsl⟩
      · split
        · exact ⟨Nat.le_refl _, Nat.zero_le _⟩
        · split
          · exact ⟨Nat.zero_le _, by show fr.length ≤ _; omega⟩
          · exact ⟨Nat.le_refl _, by show fr.length ≤ _; omega⟩
    refine slot_fall_ok H4 hby hdl.1 hdl.2 fun h5 s5 H5 => ?_
    obtain ⟨z', H6⟩ := back h5 _ _ _ _ H5
    exact h3 hl hn h5 z' (H6.del 5)
theorem idxPP {t e e' : TypeId} (hu : Try.prog.underlying t = some (.array 2 e)) (hs : (Try.prog.info? e).map (·.size) = some 1) (hp : Try.prog.underlying e = some (.pointer e')) {x y : Value} {k : Kd} {u : k.T} {K : k.T → Prop} (i : Nat) (hi : [x, y][i]? = some (k.mk u)) (hK : K u) :
    OpP Try.prog (Instr.index t (.agg #[x, y]) (.int .i64 (i : Int))) [.one k] fun (v : k.T) => K v := by
  have h2 : i < 2 := by
    have := (List.getElem?_eq_some_iff.1 hi).1
    simpa using this
  obtain ⟨j, hj, hj1⟩ : ∃ j, Try.prog.info? e = some j ∧ j.size = 1 := by
    cases hj : Try.prog.info? e with
    | none => rw [hj] at hs; cases hs
    | some j => rw [hj] at hs; exact ⟨j, rfl, by simpa using hs⟩
  refine ⟨(u, ()), fun w => ?_, hK⟩
  have hb : (#[x, y] : Array Value)[i]? = some (k.mk u) := by simpa using hi
  have hr : (Instr.index t (.agg #[x, y]) (.int .i64 (i : Int))).run Try.prog w = .ok (k.mk u) w := by
    simp only [Instr.index, asIntOf, Sem.run_bind, run_underlying hu, Result.andThen_ok]
    simp [info_run hj, hj1, part, isAgg, run_underlying hp, hb, h2]
    rw [if_pos (by omega)]
    have := (List.getElem?_eq_some_iff.1 hi).2
    rw [this]
  exact hr
theorem slot_Crash_ok {keep at_ by_ : Int} {y : UInt8} {R : Int → Heap → Prop} (H : At h0 h (pairL p z a b ++ F)) (hby : by_ = (y.toNat : Int)) (ha : a.length ≤ 1048576) (hb : b.length ≤ 1048576)
    (hR : ∀ h' z', At h0 h' (pairL p z' a b ++ F) → R 0 h') : C_slot_Pair_Crash (some ⟨p, 0, none⟩) keep at_ by_ h R := by
  refine A_slot_Pair_Crash ?_
  unfold S_slot_Pair_Crash
  refine brSome (nn (ldAt0 H 0 rfl _ rfl (ldAt H 0 rfl _ rfl ?_)))
  refine loop1 (s1 := .one (.int .i64)) (fun (x : Int) h' => ∃ (k : Nat) (z' : PS), x = k ∧ k ≤ 2 ∧ z'.d0 = z.d0 ∧ z'.d1 = z.d1 ∧ At h0 h' (pairL p z' a b ++ F)) (fun (x : Int) _ => (2 - x).toNat) ⟨0, z, rfl, by decide, rfl, rfl, H⟩ fun _ (x : Int) h' hI => ?_
  obtain ⟨k, z', rfl, hk, hd0, hd1, H⟩ := hI
  refine brD (fun hc => ?_) fun hc => hR h' z' H
  have hk2 : k = 0 ∨ k = 1 := by omega
  rcases hk2 with rfl | rfl
  · refine idxPP (k := .ptr) (e := 41) (e' := 133) (by kernel_rfl) (by kernel_rfl) (by kernel_rfl) 0 rfl ?_
    rw [← hd0]
    refine slot_fall_ok H.disk0 hby (Nat.le_refl _) ha fun h2 s2 H2 => ?_
    rw [crashL_full] at H2
    exact ⟨⟨1, { z' with s0 := s2 }, rfl, by decide, rfl, hd1, H2.mv 2 1⟩, by decide⟩
  · refine idxPP (k := .ptr) (e := 41) (e' := 133) (by kernel_rfl) (by kernel_rfl) (by kernel_rfl) 1 rfl ?_
    rw [← hd1]
    refine slot_fall_ok H.disk1 hby (Nat.le_refl _) hb fun h2 s2 H2 => ?_
    rw [crashL_full] at H2
    exact ⟨⟨2, { z' with s1 := s2 }, rfl, by decide, hd0, rfl, H2.mv 2 3⟩, by decide⟩
end
/-! ## The document's -/
section
variable {h0 h : Heap}
theorem ref33_Whole_ok {q : Sl} {l : List UInt8} {R : ByteArray → Int → Heap → Prop} (hq : RdS h 1 q (cB l)) (hqc : q.n ≤ q.c) (hl : l.length ≤ 1000000000) (hR : ∀ h', Ext h.size h h' → R (strB (wholeS l).1) ((wholeS l).2 : Nat) h') : C_ref33_Whole q h R := by
  refine A_ref33_Whole ?_
  unfold S_ref33_Whole
  have hn := rd_b hq
  have none_ : wholeS l = ([], 0) → ∀ h', Ext h.size h h' → R (⟨#[]⟩ : ByteArray) 0 h' := fun e h' E => by
    have := hR h' E
    rwa [e] at this
  refine ref03_Take_ok hq hqc (by omega) fun r h1 o1 f1 e1 => ?_
  refine brB (fun hne => none_ (wholeS_bad (by simpa using hne)) h1 e1) fun hz => ?_
  have hz' : (takeM l).2.2 = 0 := by simpa using hz
  obtain ⟨_, t2, _, _⟩ := takeM_ok hz'
  refine brB (fun hne => ?_) fun heq => ?_
  · refine none_ ?_ h1 e1
    have e : wholeM l = ([], eForm) := by
      unfold wholeM
      rw [if_pos ⟨hz', by rw [bne_iff_ne] at hne; omega⟩]
    unfold wholeS
    rw [e, if_pos (by decide)]
  · have e : wholeM l = ((takeM l).1, 0) := by
      unfold wholeM
      rw [if_neg (fun x => by rw [bne_eq_false_iff_eq] at heq; have := x.2; omega), hz']
    have ew : wholeS l = numM (takeM l).1 := by unfold wholeS; rw [e, if_neg (by simp)]
    rw [ew] at none_ hR
    generalize (takeM l).1 = p at *
    refine toS BT o1.rd ?_
    refine allocAt (At.start h1) fun h2 b2 H => ?_
    refine ref01_RInt_ok (F := []) H fun h3 H => ?_
    have E3 : Ext h.size h h3 := e1.trans (H.ext.mono e1.1)
    rcases mInt_cases p 1 1099511627776 with hm | ⟨h8, v, hm, hv1, hv2⟩
    · rw [hm] at H ⊢
      exact nn (ldAt H 0 rfl true rfl (brY rfl (none_ (numM_bad hm) h3 E3)))
    · rw [hm] at H ⊢
      refine nn (ldAt H 0 rfl false rfl (brN rfl (nn (ldAt0 H 0 rfl _ rfl ?_))))
      have en : numM p = (p.drop 8, v.toNat) := by unfold numM; rw [hm]
      rw [en] at hR
      have := hR h3 E3
      rwa [show ((v.toNat : Nat) : Int) = v by omega] at this
theorem ref33_Newest_ok {x y : Sl} {a b : List UInt8} {R : ByteArray → Int → Heap → Prop} (hx : RdS h 1 x (cB a)) (hxc : x.n ≤ x.c) (ha : a.length ≤ 1000000000) (hy : RdS h 1 y (cB b)) (hyc : y.n ≤ y.c) (hb : b.length ≤ 1000000000)
    (hR : ∀ h', Ext h.size h h' → R (strB (newestS a b).2.1) ((newestS a b).2.2 : Nat) h') : C_ref33_Newest x y h R := by
  refine A_ref33_Newest ?_
  unfold S_ref33_Newest
  refine ref33_Whole_ok hx hxc ha fun h1 e1 => ref33_Whole_ok (hy.ext' e1) hyc hb fun h2 e2 => ?_
  have E := e1.trans (e2.mono e1.1)
  unfold newestS at hR
  refine brD (fun hc => ?_) fun hc => ?_
  · rw [if_pos (by omega)] at hR
    exact hR h2 E
  · rw [if_neg (by omega)] at hR
    exact hR h2 E
theorem ref33_Bytes_ok {n : Int} {k : Nat} {q : Sl} {l : List UInt8} {R : ByteArray → Heap → Prop} (hn : n = (k : Int)) (hq : RdS h 1 q (cB l)) (hl : l.length ≤ 4000) (hR : ∀ h', Ext h.size h h' → R (strB (slotB k l)) h') : C_ref33_Bytes n q h R := by
  refine A_ref33_Bytes ?_
  unfold S_ref33_Bytes
  subst hn
  refine toS BT hq ?_
  refine ref01_IntP fun h1 e1 => ⟨toS BT (hq.ext' e1) rfl, ?_⟩
  refine cat (by rw [strB_size, strB_size, be8_length]; omega) ?_
  rw [strB_append]
  refine toB BT (by rw [strB_size, List.length_append, be8_length]; omega) fun s2 h2 o2 n2 e2 f2 => ?_
  rw [strB_data] at o2
  refine ref03_Put_ok o2.rd (by rw [List.length_append, be8_length]; omega) fun r3 h3 o3 f3 e3 => ?_
  refine toS BT o3.rd ?_
  exact hR h3 ((e1.trans (e2.mono e1.1)).trans (e3.mono (Nat.le_trans e1.1 e2.1)))
end
end Go.Proofs.Ytnognoiaakiepaa
