/-
  Layer 1 (word): the reference's reader; whatever is asked for (WordReads).
-/
import Derived.Test.YtfafikomhbedbaaW4
import Derived.Test.YtfafikomhbedbaaG
namespace Go.Proofs.Ytfafikomhbedbaa
open Go

/-! ## Slices of things of several cells -/
theorem ixF {α : Type} {f : α → List Value} {sz : Nat} (hf : ∀ x, (f x).length = sz) {h : Heap} {s : Sl} {xs : List α} {i : Int} {K : Addr → Prop} (hr : RdS h sz s (xs.flatMap f)) (k : Nat) (hi : i = (k : Int)) (hk : k < xs.length) (hsz : 0 < sz)
    (hK : ∀ g o, s.blk = some g → (∀ j, j < sz → cellH h ⟨g, o + j, none⟩ = (f xs[k])[j]?) → K ⟨g, o, none⟩) : Ix s i sz K := by
  have hn : s.n = xs.length := by
    have := hr.1
    rw [flat_len f sz hf] at this
    exact Nat.eq_of_mul_eq_mul_right hsz this.symm
  refine ix hr (by omega) (by omega) hsz fun g o hb hc => hK g o hb fun j hj => ?_
  rw [hc j hj, show i.toNat = k by omega]
  exact flat_get f sz hf xs k j hk hj
theorem ldC {k : Kd} {h : Heap} {g o sz : Nat} {cs : List Value} {K : k.T → Prop} (hc : ∀ j, j < sz → cellH h ⟨g, o + j, none⟩ = cs[j]?) (j : Nat) (hj : j < sz) (x : k.T) (hx : cs[j]? = some (k.mk x)) (hK : K x) :
    Ld k h ((⟨g, o, none⟩ : Addr).add j) K := by rw [add0]; exact ld x ((hc j hj).trans hx) hK
theorem ldC0 {k : Kd} {h : Heap} {g o sz : Nat} {cs : List Value} {K : k.T → Prop} (hc : ∀ j, j < sz → cellH h ⟨g, o + j, none⟩ = cs[j]?) (hj : 0 < sz) (x : k.T) (hx : cs[0]? = some (k.mk x)) (hK : K x) :
    Ld k h ⟨g, o, none⟩ K := ld x ((hc 0 hj).trans hx) hK

/-! ## The reference's reader -/
def QRep (h : Heap) (q : Nat) (bad : Bool) (l : List UInt8) : Prop := ∃ t, Blk h q t [.string (strB l), .bool bad]
theorem QRep.upd {G : Nat → Prop} {h h' : Heap} {q : Nat} {bad : Bool} {l : List UInt8} (hr : QRep h q bad l) (hu : Upd G h h') (hp : ¬ G q) : QRep h' q bad l := by
  obtain ⟨t, h1⟩ := hr
  exact ⟨t, h1.upd hu hp⟩
theorem QRep.lt {h : Heap} {q : Nat} {bad : Bool} {l : List UInt8} (hr : QRep h q bad l) : q < h.size := by
  obtain ⟨t, h1⟩ := hr
  exact h1.lt
theorem strB_get (l : List UInt8) (k : Nat) (hk : k < l.length) : (strB l)[k]? = some l[k] := by
  have h1 : k < (strB l).size := by rw [strB_size]; exact hk
  rw [getElem?_pos (strB l) k h1]
  simp [strB, ByteArray.getElem_eq_getElem_data]
theorem ixS {l : List UInt8} {i : Int} {K : Int → Prop} (k : Nat) (hi : i = (k : Int)) (hk : k < l.length) (hK : K (l[k].toNat : Int)) : IxS (strB l) i K := by
  subst hi
  exact ⟨l[k], by omega, by rw [Int.toNat_natCast]; exact strB_get l k hk, hK⟩

section
variable {h : Heap} {q : Nat} {bad : Bool} {l : List UInt8}
def QStp (h : Heap) (q : Nat) (bad : Bool) (l : List UInt8) (h' : Heap) : Prop := QRep h' q bad l ∧ Upd (· = q) h h' ∧ h'.size = h.size
theorem two {q : Nat} {a b c : Heap} (h1 : Upd (· = q) a b) (h2 : Upd (· = q) b c) : Upd (· = q) a c := h1.trans h2 (fun _ _ h => h) (fun _ _ h => h)
theorem ref01_part_ok {n : Int} {R : ByteArray → Heap → Prop} (hq : QRep h q bad l) (k : Nat) (hn : n = (k : Int))
    (h1 : (bad = true ∨ l.length < k) → ∀ h', QStp h q true [] h' → R (strB []) h')
    (h2 : bad = false → k ≤ l.length → ∀ h', QStp h q false (l.drop k) h' → R (strB (l.take k)) h') : C_ref01_Reader_part (some ⟨q, 0, none⟩) n h R := by
  refine A_ref01_Reader_part ?_
  unfold S_ref01_Reader_part
  obtain ⟨t, hb⟩ := hq
  subst hn
  have fl : (bad = true ∨ l.length < k) → Nn (some (⟨q, 0, none⟩ : Addr)) fun p1 => St h (p1.add 1) (.bool true) fun h_ => Nn (some (⟨q, 0, none⟩ : Addr)) fun p2 => St h_ p2 (.string (⟨#[]⟩ : ByteArray)) fun h_1 => R (⟨#[]⟩ : ByteArray) h_1 := fun hf =>
    nn (stF hb (by simp) fun h3 b3 u3 z3 => nn (stB b3 (by simp) fun h4 b4 u4 z4 => h1 hf h4 ⟨⟨t, b4⟩, two u3 u4, by omega⟩))
  refine nn (ldF hb bad rfl ?_)
  cases bad with
  | true => exact fl (.inl rfl)
  | false =>
    refine brF (nn (ldB hb (strB l) rfl (brD (fun hlt => ?_) fun hge => ?_)))
    · exact fl (.inr (by rw [strB_size] at hlt; omega))
    · rw [strB_size] at hge
      refine nn (ldB hb (strB l) rfl (cutS TXT 0 k lo0 (hii rfl) (by omega) (by rw [strB_size]; omega) ?_))
      refine nn (ldB hb (strB l) rfl (cutS TXT k (strB l).size (loi rfl) (hi0 _) (by rw [strB_size]; omega) (Nat.le_refl _) ?_))
      refine nn (stB hb (by simp) fun h4 b4 u4 z4 => ?_)
      have e1 : (strB l).extract 0 k = strB (l.take k) := by rw [extract_strB]; simp
      have e2 : (strB l).extract k (strB l).size = strB (l.drop k) := by
        rw [extract_strB, strB_size, List.take_of_length_le (by rw [List.length_drop]; omega)]
      rw [e1]
      rw [e2] at b4
      exact h2 rfl (by omega) h4 ⟨⟨t, b4⟩, u4, z4⟩
theorem ref_fail {R : Heap → Prop} (hq : QRep h q bad l) (hR : ∀ h', QStp h q true [] h' → R h') :
    Nn (some (⟨q, 0, none⟩ : Addr)) fun p1 => St h (p1.add 1) (.bool true) fun h_ => Nn (some (⟨q, 0, none⟩ : Addr)) fun p2 => St h_ p2 (.string (⟨#[]⟩ : ByteArray)) fun h_1 => R h_1 := by
  obtain ⟨t, hb⟩ := hq
  exact nn (stF hb (by simp) fun h3 b3 u3 z3 => nn (stB b3 (by simp) fun h4 b4 u4 z4 => hR h4 ⟨⟨t, b4⟩, two u3 u4, by omega⟩))
theorem QStp.then {bad' bad'' : Bool} {l' l'' : List UInt8} {h1 h2 : Heap} (a : QStp h q bad' l' h1) (b : QStp h1 q bad'' l'' h2) : QStp h q bad'' l'' h2 := ⟨b.1, two a.2.1 b.2.1, by rw [b.2.2, a.2.2]⟩
theorem ref01_RInt_ok {least most : Int} {R : Int → Heap → Prop} (hq : QRep h q bad l)
    (hR : ∀ h', QStp h q (mInt bad l least most).1 (mInt bad l least most).2.1 h' → R (mInt bad l least most).2.2 h') : C_ref01_Reader_Int (some ⟨q, 0, none⟩) least most h R := by
  refine A_ref01_Reader_Int ?_
  unfold S_ref01_Reader_Int
  refine ref01_part_ok hq 8 rfl (fun hf h1 st => ?_) fun hb hle h1 st => ?_
  · have hm : mInt bad l least most = (true, [], 0) := by unfold mInt; rw [if_pos hf]
    rw [hm] at hR
    obtain ⟨t, hb1⟩ := st.1
    exact nn (ldF hb1 true rfl (brT (hR h1 st)))
  · have hlen : (l.take 8).length = 8 := by rw [List.length_take]; omega
    have hm : mInt bad l least most = if least ≤ IntKind.i64.wrap (valBE (l.take 8)) ∧ IntKind.i64.wrap (valBE (l.take 8)) ≤ most then (false, l.drop 8, IntKind.i64.wrap (valBE (l.take 8))) else (true, [], 0) := by
      unfold mInt; rw [if_neg (by rw [hb]; rintro (h0 | h0); exact Bool.noConfusion h0; omega)]
    obtain ⟨t, hb1⟩ := st.1
    refine nn (ldF hb1 false rfl (brF ?_))
    refine loop2 (s1 := .one (.int .u64)) (s2 := .one (.int .i64)) (fun (u i : Int) h2 => ∃ k : Nat, k ≤ 8 ∧ i = k ∧ u = valBE ((l.take 8).take k) ∧ h2 = h1) (fun _ (x : Int) _ => (8 - x).toNat) ⟨0, by decide, rfl, by simp [valBE], rfl⟩ fun _ (u : Int) (i : Int) h2 hI => ?_
    obtain ⟨k, hk, rfl, rfl, rfl⟩ := hI
    refine brD (fun hc => ?_) fun hc => ?_
    · have hk8 : k < (l.take 8).length := by omega
      refine ixS k rfl hk8 (let_ (let_ ?_))
      have hv2 := valBE8 (l := l.take 8) (k := k + 1) (by omega)
      have hb8 := ((l.take 8)[k]).toNat_lt
      have hs := take_snoc (l.take 8) k hk8
      have e1 : IntKind.u64.wrap (IntKind.u64.wrap ((valBE ((l.take 8).take k) : Int) * 256) + IntKind.u64.wrap (((l.take 8)[k]).toNat : Int)) = (valBE ((l.take 8).take (k + 1)) : Int) := by
        rw [hs, valBE_snoc] at hv2 ⊢
        generalize valBE ((l.take 8).take k) = u at *
        generalize ((l.take 8)[k]).toNat = c at *
        rw [wu64 (n := (u : Int) * 256) (by omega) (by omega), wu64 (n := (c : Int)) (by omega) (by omega), wu64 (by omega) (by omega)]
        omega
      rw [e1, w64 (by omega) (by omega)]
      exact ⟨⟨k + 1, by omega, by omega, rfl, rfl⟩, by omega⟩
    · have hk8 : k = 8 := by omega
      subst hk8
      rw [show (l.take 8).take 8 = l.take 8 by rw [List.take_take]; simp]
      refine brD (fun c1 => ?_) fun c1 => brD (fun c2 => ?_) fun c2 => ?_
      · rw [hm, if_neg (by omega)] at hR
        exact ref_fail st.1 fun h3 st3 => hR h3 (st.then st3)
      · rw [hm, if_neg (by omega)] at hR
        exact ref_fail st.1 fun h3 st3 => hR h3 (st.then st3)
      · rw [hm, if_pos (by omega)] at hR
        exact hR _ st
theorem ref01_RText_ok {most : Int} {R : ByteArray → Heap → Prop} (hq : QRep h q bad l)
    (hR : ∀ h', QStp h q (mText bad l most).1 (mText bad l most).2.1 h' → R (strB (mText bad l most).2.2) h') : C_ref01_Reader_Text (some ⟨q, 0, none⟩) most h R := by
  refine A_ref01_Reader_Text ?_
  unfold S_ref01_Reader_Text
  refine ref01_part_ok hq 2 rfl (fun hf h1 st => ?_) fun hb hle h1 st => ?_
  · have hm : mText bad l most = (true, [], []) := by unfold mText; rw [if_pos hf]
    rw [hm] at hR
    obtain ⟨t, hb1⟩ := st.1
    exact nn (ldF hb1 true rfl (brT (hR h1 st)))
  · have h2l : (l.take 2).length = 2 := by rw [List.length_take]; omega
    have hm : mText bad l most = if most < valBE (l.take 2) then (true, [], [])
        else if (l.drop 2).length < valBE (l.take 2) then (true, [], [])
        else (false, (l.drop 2).drop (valBE (l.take 2)), (l.drop 2).take (valBE (l.take 2))) := by
      unfold mText; rw [if_neg (by rw [hb]; rintro (h0 | h0); exact Bool.noConfusion h0; omega)]
    have hv : valBE (l.take 2) = ((l.take 2)[0]).toNat * 256 + ((l.take 2)[1]).toNat := by
      have := valBE_take2 (l := l.take 2) (by omega)
      rwa [List.take_take] at this
    obtain ⟨t, hb1⟩ := st.1
    have b0 := ((l.take 2)[0]).toNat_lt
    have b1 := ((l.take 2)[1]).toNat_lt
    refine nn (ldF hb1 false rfl (brF (ixS 0 rfl (by omega) (ixS 1 rfl (by omega) (let_ ?_)))))
    have e1 : IntKind.i64.wrap (IntKind.i64.wrap (IntKind.i64.wrap (((l.take 2)[0]).toNat : Int) * 256) + IntKind.i64.wrap (((l.take 2)[1]).toNat : Int)) = (valBE (l.take 2) : Int) := by
      rw [hv]
      generalize ((l.take 2)[0]).toNat = u at *
      generalize ((l.take 2)[1]).toNat = c at *
      rw [w64 (n := (u : Int)) (by omega) (by omega), w64 (n := (u : Int) * 256) (by omega) (by omega), w64 (n := (c : Int)) (by omega) (by omega), w64 (by omega) (by omega)]
      omega
    rw [e1]
    refine brD (fun c1 => ?_) fun c1 => ?_
    · rw [hm, if_pos (by omega)] at hR
      exact ref_fail st.1 fun h3 st3 => hR h3 (st.then st3)
    · rw [if_neg (by omega)] at hm
      refine ref01_part_ok st.1 (valBE (l.take 2)) rfl (fun hf h3 st3 => ?_) fun _ hle3 h3 st3 => ?_
      · rw [hm, if_pos (hf.resolve_left (by simp))] at hR
        exact hR h3 (st.then st3)
      · rw [hm, if_neg (by omega)] at hR
        exact hR h3 (st.then st3)
theorem ref01_RBool_ok {R : Bool → Heap → Prop} (hq : QRep h q bad l)
    (hR : ∀ h', QStp h q (mBool bad l).1 (mBool bad l).2.1 h' → R (mBool bad l).2.2 h') : C_ref01_Reader_Bool (some ⟨q, 0, none⟩) h R := by
  refine A_ref01_Reader_Bool ?_
  unfold S_ref01_Reader_Bool
  refine ref01_part_ok hq 1 rfl (fun hf h1 st => ?_) fun hb hle h1 st => ?_
  · have hm : mBool bad l = (true, [], false) := by unfold mBool; rw [if_pos hf]
    rw [hm] at hR
    obtain ⟨t, hb1⟩ := st.1
    exact nn (ldF hb1 true rfl (brT (hR h1 st)))
  · have h1l : (l.take 1).length = 1 := by rw [List.length_take]; omega
    have hv : valBE (l.take 1) = ((l.take 1)[0]).toNat := by
      have := valBE_take1 (l := l.take 1) (by omega)
      rwa [List.take_take] at this
    have hm : mBool bad l = if 1 < valBE (l.take 1) then (true, [], false) else (false, l.drop 1, valBE (l.take 1) == 1) := by
      unfold mBool; rw [if_neg (by rw [hb]; rintro (h0 | h0); exact Bool.noConfusion h0; omega)]
    obtain ⟨t, hb1⟩ := st.1
    refine nn (ldF hb1 false rfl (brF (ixS 0 rfl (by omega) (brD (fun c1 => ?_) fun c1 => ?_))))
    · rw [hm, if_pos (by omega)] at hR
      exact ref_fail st.1 fun h3 st3 => hR h3 (st.then st3)
    · rw [hm, if_neg (by omega)] at hR
      refine ixS 0 rfl (by omega) ?_
      have e1 : (((((l.take 1)[0]).toNat : Nat) : Int) == 1) = (valBE (l.take 1) == 1) := by
        rw [hv]; rw [Bool.eq_iff_iff]; simp only [beq_iff_eq]; omega
      rw [e1]
      exact hR _ st
end

/-! ## WordReads -/
structure WAct where
  kind : Int
  least : Int
  most : Int
def WAct.cells (a : WAct) : List Value := [.int .u8 a.kind, .int .i64 a.least, .int .i64 a.most]
/-- Both readers, side by side. -/
structure Both (B : Nat) (h₀ : Heap) (p q : Nat) (bad : Bool) (l : List UInt8) (h : Heap) : Prop where
  rr : RRep (· < B) h p bad l
  rq : QRep h q bad l
  re : Ext B h₀ h
  pB : B ≤ p
  qB : B ≤ q
  hB : B ≤ h.size
  ne : p ≠ q
theorem Both.ext {B : Nat} {h₀ : Heap} {p q : Nat} {bad : Bool} {l : List UInt8} {h h' : Heap} (b : Both B h₀ p q bad l h) (he : Ext h.size h h') : Both B h₀ p q bad l h' :=
  ⟨b.rr.upd (he.upd fun _ => False) (fun x => x) fun _ _ _ x => x, b.rq.upd (he.upd fun _ => False) (fun x => x), b.re.trans (he.mono b.hB), b.pB, b.qB, Nat.le_trans b.hB he.1, b.ne⟩
theorem Both.stp {B : Nat} {h₀ : Heap} {p q : Nat} {bad bad' : Bool} {l l' : List UInt8} {h h1 h2 : Heap} (b : Both B h₀ p q bad l h) (h3 : Stp (· < B) h p bad' l' h1) (h4 : QStp h1 q bad' l' h2) : Both B h₀ p q bad' l' h2 :=
  have e : Ext B h h2 := (h3.2.1.ext1 b.pB b.hB).trans (h4.2.1.ext1 b.qB (by rw [h3.2.2]; exact b.hB))
  ⟨h3.1.upd h4.2.1 b.ne fun g _ hg => by have := b.qB; show ¬ g = q; omega, h4.1, b.re.trans e, b.pB, b.qB, Nat.le_trans b.hB e.1, b.ne⟩

theorem law01_WordReads_ok {b l : Sl} {xs : List UInt8} {acts : List WAct} {h : Heap} (wb : Arg h 1 b (cB xs) ∧ b.below h.size)
    (wl : Arg h 3 l (acts.flatMap WAct.cells) ∧ l.below h.size ∧ ∀ a ∈ acts, 0 ≤ a.kind ∧ a.kind ≤ 255) :
    C_law01_WordReads b l h fun r h' => r = true ∧ Ext h.size h h' := by
  obtain ⟨⟨hb, hbc, hbm, _⟩, hbb⟩ := wb
  obtain ⟨⟨hl, _, _, _⟩, hlb, hk⟩ := wl
  refine A_law01_WordReads ?_
  unfold S_law01_WordReads
  refine law01_fixed_ok fun h0 e0 => brN rfl ?_
  have hln : acts.length = l.n := by
    have := hl.1
    rw [flat_len WAct.cells 3 (fun _ => rfl)] at this
    omega
  refine brD (fun _ => ⟨rfl, e0⟩) fun _ => brD (fun _ => ⟨rfl, e0⟩) fun hl60 => ?_
  refine join2 (s1 := .one .ptr) (s2 := .one .ptr) (fun (r p : Option Addr) h1 => ∃ p1 q, r = some ⟨p1, 0, none⟩ ∧ p = some ⟨q, 0, none⟩ ∧ Both h.size h p1 q false xs h1) (fun _ (r : Option Addr) (p : Option Addr) h1 hJ => ?_) ?_
  · obtain ⟨p1, q, rfl, rfl, hbo⟩ := hJ
    refine loop1 (s1 := .one (.int .i64)) (fun (x : Int) h2 => ∃ k : Nat, k ≤ acts.length ∧ x = k ∧ ∃ bad m, Both h.size h p1 q bad m h2) (fun (x : Int) _ => (acts.length - x).toNat) ⟨0, Nat.zero_le _, rfl, false, xs, hbo⟩ fun _ (x : Int) h2 hI => ?_
    obtain ⟨k, hk1, rfl, bad, m, hB⟩ := hI
    refine brD (fun hc => ?_) fun hc => ⟨rfl, hB.re⟩
    have hk2 : k < acts.length := by omega
    refine ixF (f := WAct.cells) (fun _ => rfl) (hl.ext hB.re hlb) k rfl hk2 (by decide) fun g o hg hce => ?_
    refine ldC0 hce (by decide) acts[k].kind rfl (ldC hce 1 (by decide) acts[k].least rfl (ldC hce 2 (by decide) acts[k].most rfl ?_))
    refine alloc (cs := [.int .u8 0, .int .i64 0, .int .i64 0]) fun h3 b3 e3 z3 => ?_
    refine stB b3 (by simp) fun h4 b4 u4 z4 => stF b4 (by simp) fun h5 b5 u5 z5 => stF b5 (by simp) fun h6 b6 u6 z6 => ?_
    have b6' : Blk h6 h2.size 40 [.int .u8 acts[k].kind, .int .i64 acts[k].least, .int .i64 acts[k].most] := b6
    have e6 : Ext h2.size h2 h6 := e3.trans ((two (two u4 u5) u6).ext1 (Nat.le_refl _) (by omega))
    have hB6 := hB.ext e6
    have hpl := hB.rr.lt
    have hql := hB.rq.lt
    refine ldB b6' acts[k].kind rfl (nz (by decide) ?_)
    refine join0 (fun h7 => ∃ bad m, Both h.size h p1 q bad m h7) (fun _ h7 hJ => ?_) ?_
    · obtain ⟨bad7, m7, hB7⟩ := hJ
      obtain ⟨t7, bq7⟩ := hB7.rq
      refine nn (ldF bq7 bad7 rfl (word_Fail_ok hB7.rr ⟨ldF bq7 bad7 rfl rfl, brN (by simp) (nn (ldB bq7 (strB m7) rfl (word_Left_ok hB7.rr ⟨ldB bq7 (strB m7) rfl rfl, brN (by rw [strB_size]; simp) ?_⟩)))⟩))
      refine nn (ldF bq7 bad7 rfl (word_Done_ok hB7.rr ⟨ldF bq7 bad7 rfl rfl, ?_⟩))
      have step : (∃ k' : Nat, k' ≤ acts.length ∧ IntKind.i64.wrap ((k : Int) + 1) = k' ∧ ∃ bad m, Both h.size h p1 q bad m h7) ∧ ((acts.length : Int) - IntKind.i64.wrap ((k : Int) + 1)).toNat < ((acts.length : Int) - (k : Int)).toNat := by
        rw [w64 (by omega) (by omega)]
        exact ⟨⟨k + 1, by omega, by omega, bad7, m7, hB7⟩, by omega⟩
      cases bad7 with
      | true => exact brF (brN rfl step)
      | false =>
        refine brT (nn (ldB bq7 (strB m7) rfl (brN ?_ step)))
        rw [strB_toList, show (⟨#[]⟩ : ByteArray) = strB [] from rfl, strB_toList]
        cases m7 <;> rfl
    · have hkd := hk _ (List.getElem_mem hk2)
      rw [rem_nonneg hkd.1]
      have hFp : ¬ p1 < h.size := by have := hB.pB; omega
      have h6p : h2.size ≠ p1 := by omega
      have h6q : h2.size ≠ q := by omega
      refine br beq_iff_eq (fun c0 => ?_) fun c0 => br beq_iff_eq (fun c1 => ?_) fun c1 => br beq_iff_eq (fun c2 => ?_) fun c2 => ?_
      · refine ldF b6' acts[k].least rfl (ldF b6' acts[k].most rfl (ldF b6' acts[k].least rfl (ldF b6' acts[k].most rfl ?_)))
        refine word_Int_ok hB6.rr hFp fun h8 st8 => ?_
        have b8 := b6'.upd st8.2.1 h6p
        refine ⟨ldF b8 acts[k].least rfl rfl, ldF b8 acts[k].most rfl rfl, ?_⟩
        refine ref01_RInt_ok (hB6.rq.upd st8.2.1 fun e => hB.ne e.symm) fun h9 st9 => ?_
        exact brN (by simp) ⟨_, _, hB6.stp st8 st9⟩
      · refine ldF b6' acts[k].most rfl (ldF b6' acts[k].most rfl ?_)
        refine word_Text_ok hB6.rr hFp fun h8 st8 => ?_
        have b8 := b6'.upd st8.2.1 h6p
        refine ⟨ldF b8 acts[k].most rfl rfl, ?_⟩
        refine ref01_RText_ok (hB6.rq.upd st8.2.1 fun e => hB.ne e.symm) fun h9 st9 => ?_
        exact brN (by simp) ⟨_, _, hB6.stp st8 st9⟩
      · refine word_Bool_ok hB6.rr hFp fun h8 st8 => ?_
        refine ref01_RBool_ok (hB6.rq.upd st8.2.1 fun e => hB.ne e.symm) fun h9 st9 => ?_
        exact brN (by simp) ⟨_, _, hB6.stp st8 st9⟩
      · exact ⟨_, _, hB6⟩
  · have hrd0 : RdS h0 1 b (cB xs) := hb.ext e0 hbb
    refine toS BT hrd0 ⟨?_, ?_⟩
    · refine word_Read_ok (F := (· < h.size)) hrd0 hbc hbm hbb fun p1 h1 r1 e1 z1 hp1 => ⟨toS BT (hrd0.ext' e1) rfl, ?_⟩
      refine alloc (cs := [.string (strB xs), .bool false]) fun h2 b2 e2 z2 => ?_
      have h0le := e0.1
      exact ⟨p1, h1.size, rfl, rfl, r1.upd (e2.upd fun _ => False) (fun x => x) fun _ _ _ x => x, ⟨_, b2⟩, (e0.trans (e1.mono h0le)).trans (e2.mono (by omega)), by omega, by omega, by omega, by have := r1.lt; omega⟩
    · refine alloc (cs := [.string (strB xs), .bool false]) fun h1 b1 e1 z1 => ?_
      have h0le := e0.1
      refine word_Read_ok (F := (· < h.size)) (hrd0.ext' e1) hbc hbm hbb fun p1 h2 r2 e2 z2 hp2 => ⟨toS BT ((hrd0.ext' e1).ext' e2) rfl, ?_⟩
      exact ⟨p1, h0.size, rfl, rfl, r2, ⟨_, b1.upd (e2.upd fun _ => False) (fun x => x)⟩, (e0.trans (e1.mono h0le)).trans (e2.mono (by omega)), by omega, by omega, by omega, by omega⟩

/-! ## The arguments -/
section
open Go.ChangeShapes Go.WideShapes
variable {H : Type} {enc : TypeId × Value → H} {w : World} {b0 : Nat} {v : Value} {d : DataW H} {ps : List MemPlace}
set_option maxRecDepth 100000 in
theorem arg_u8s (hval : Value.okWide Try.prog w .any b0 23 v) (hd : DataW.Trod enc Try.prog w 0 (fun _ => true) true 23 v d ps) : ∃ (s : Sl) (xs : List UInt8), v = s.v ∧ Arg w.heap 1 s (cB xs) ∧ s.below w.heap.size :=
  arg_bytes Try.underlying23 Try.underlying5 (by kernel_rfl) hval hd
set_option maxRecDepth 100000 in
theorem arg_act01 (hval : Value.okWide Try.prog w .any b0 35 v) (hd : DataW.Trod enc Try.prog w 0 (fun _ => true) true 35 v d ps) :
    ∃ (s : Sl) (acts : List WAct), v = s.v ∧ Arg w.heap 3 s (acts.flatMap WAct.cells) ∧ s.below w.heap.size ∧ ∀ a ∈ acts, 0 ≤ a.kind ∧ a.kind ≤ 255 := by
  have he : El enc Try.prog w 40 fun cs => ∃ a : WAct, cs = a.cells ∧ (0 ≤ a.kind ∧ a.kind ≤ 255) := by
    refine el_st Try.underlying40 fun cs hl hf => ?_
    have hl3 : cs.length = 3 := hl.trans (by kernel_rfl)
    match cs, hl3 with
    | [c0, c1, c2], _ =>
      obtain ⟨_, _, h0⟩ := hf 0 _ rfl
      obtain ⟨_, _, h1⟩ := hf 1 _ rfl
      obtain ⟨_, _, h2⟩ := hf 2 _ rfl
      obtain ⟨n0, e0, w0⟩ := el_int Try.underlying5 _ _ _ h0
      obtain ⟨n1, e1, w1⟩ := el_int Try.underlying3 _ _ _ h1
      obtain ⟨n2, e2, w2⟩ := el_int Try.underlying3 _ _ _ h2
      have e0' : [c0] = [Value.int .u8 n0] := e0
      have e1' : [c1] = [Value.int .i64 n1] := e1
      have e2' : [c2] = [Value.int .i64 n2] := e2
      simp only [List.cons.injEq, and_true] at e0' e1' e2'
      subst e0' e1' e2'
      refine ⟨⟨n0, n1, n2⟩, rfl, ?_⟩
      simp [Lit.wf, IntKind.min, IntKind.max, IntKind.bits, IntKind.signed] at w0
      show 0 ≤ n0 ∧ n0 ≤ 255
      omega
  obtain ⟨s, css, h1, _, h3, h4, h5⟩ := arg_sl (sz := 3) Try.underlying35 (by kernel_rfl) (by decide) he hval hd
  obtain ⟨acts, h6, h7, _⟩ := cells_of WAct.cells _ fun c hc => (h3 c hc).2
  exact ⟨s, acts, h1, h6 ▸ h4, h5, h7⟩
end
end Go.Proofs.Ytfafikomhbedbaa
