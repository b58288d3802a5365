/-
  Layer 3 (frame): the laws FrameReads, FramePuts, FrameTurned over the heap alone.
-/
import Derived.Test.YtegbnmaglkpkjaaF3
import Derived.Test.YtegbnmaglkpkjaaSGL
import Derived.Test.YtegbnmaglkpkjaaH
namespace Go.Proofs.Ytegbnmaglkpkjaa
open Go

theorem law03_same_ok {h : Heap} {B : Nat} {a b : Sl} {x y : List BA} {R : Bool → Heap → Prop} (ha : OutB B h a x) (hb : OutB B h b y) (_hx : x.length ≤ 1000000000) (hy : y.length ≤ 1000000000) (hR : R (decide (BAx x = BAx y)) h) : C_law03_same a b h R := by
  refine A_law03_same ?_
  unfold S_law03_same
  have hna := ownn ha.1
  have hnb := ownn hb.1
  refine brB (fun hne => ?_) fun heq => ?_
  · rwa [decide_eq_false fun e => by have := congrArg List.length e; simp only [BAx, List.length_map] at this; rw [bne_iff_ne] at hne; omega] at hR
  have hlen : x.length = y.length := by rw [bne_eq_false_iff_eq] at heq; omega
  refine loop1 (s1 := .one (.int .i64)) (fun (i : Int) h1 => h1 = h ∧ ∃ k : Nat, i = k ∧ k ≤ x.length ∧ (BAx x).take k = (BAx y).take k) (fun (i : Int) _ => (x.length - i).toNat) ⟨rfl, 0, rfl, Nat.zero_le _, rfl⟩ fun _ (i : Int) h1 hI => ?_
  obtain ⟨rfl, k, rfl, hk, hp⟩ := hI
  refine brD (fun hc => ?_) fun hc => ?_
  · have hk1 : k < x.length := by omega
    have hk2 : k < y.length := by omega
    refine ixR ha.1.rd k rfl hk1 fun e he => ldR0 ha.1.rd he hk1 x[k].s rfl (toS BT (ha.2.2 _ (List.getElem_mem hk1)).1 ?_)
    refine ixR hb.1.rd k rfl hk2 fun e he => ldR0 hb.1.rd he hk2 y[k].s rfl (toS BT (hb.2.2 _ (List.getElem_mem hk2)).1 ?_)
    rw [strB_toList, strB_toList]
    refine brB (fun hne => ?_) fun heq => ?_
    · rwa [decide_eq_false fun e => by
        have := congrArg (·[k]?) e
        simp only [BAx, List.getElem?_map, List.getElem?_eq_getElem hk1, List.getElem?_eq_getElem hk2, Option.map_some, Option.some.injEq] at this
        rw [this] at hne; simp at hne] at hR
    · have he : x[k].xs = y[k].xs := by simpa using heq
      rw [w64 (by omega) (by omega)]
      refine ⟨⟨rfl, k + 1, by omega, by omega, ?_⟩, by omega⟩
      have h1 : k < (BAx x).length := by simp [BAx]; exact hk1
      have h2 : k < (BAx y).length := by simp [BAx]; exact hk2
      rw [take_snoc _ k h1, take_snoc _ k h2, hp]
      simp [BAx, he]
  · have : k = x.length := by omega
    subst this
    rwa [decide_eq_true] at hR
    have h1 : (BAx x).length = x.length := by simp [BAx]
    have h2 : (BAx y).length = x.length := by simp [BAx]; exact hlen.symm
    rwa [List.take_of_length_le (by omega), List.take_of_length_le (by omega)] at hp
/-! ## fixed -/
def hiP : List UInt8 := [104, 105]
theorem allM_hi : allM (frameM hiP ++ [1, 2]) 13 [] 0 = ([hiP], 10, 2) := by
  rw [allM_step (by decide) (by decide), List.drop_zero, takeM_frame hiP _ (by decide), if_neg (by decide)]
  show allM (frameM hiP ++ [1, 2]) 12 [hiP] 10 = _
  rw [allM_step (by decide) (by decide)]
  have e : takeM ((frameM hiP ++ [1, 2]).drop 10) = ([], 0, eForm) := rfl
  rw [e, if_pos (by decide)]
  rfl
set_option maxRecDepth 100000 in
theorem law03_fixed_ok {h : Heap} {R : Bool → Heap → Prop} (hR : ∀ h', Ext h.size h h' → R true h') : C_law03_fixed h R := by
  refine A_law03_fixed ?_
  unfold S_law03_fixed
  refine alloc (cs := cB hiP) fun h1 b1 e1 z1 => frz BT b1 fun h2 b2 u2 z2 => ?_
  have r2 : RdS h2 1 ⟨some ⟨h.size, 0, none⟩, 2, 2⟩ (cB hiP) := (Own.full b2 (sz := 1) (n := 2) (by rfl) (by decide)).rd
  have E2 : Ext h.size h h2 := e1.trans (u2.ext1 (Nat.le_refl _) (by omega))
  refine frame_Put_ok (x := []) (Own.nil _ _) r2 (fun _ g _ e => by simp [Sl.blk] at e) (by decide) (fun hx => absurd hx (by decide)) fun _ r h3 o3 g3 => ?_
  rw [List.nil_append] at o3
  have f3 : r.from_ h2.size := by
    rcases g3.blk with e | e
    · intro g hg; rw [e] at hg; simp [Sl.blk] at hg
    · exact e
  have E3 : Ext h2.size h2 h3 := g3.upd.ext (Nat.le_refl _) fun g _ e => by simp [Sl.blk] at e
  have E3' : Ext h.size h h3 := E2.trans (E3.mono E2.1)
  have hlen : (frameM hiP).length = 10 := rfl
  have n3 := rd_b o3.rd
  refine brN (by rw [n3, hlen]; rfl) ?_
  have t0 : takeM (frameM hiP) = (hiP, 10, 0) := by have := takeM_frame hiP [] (by decide); rwa [List.append_nil] at this
  refine frame_Take_ok o3.rd o3.2.1 (by omega) fun r4 h4 o4 f4 e4 => ?_
  rw [t0] at o4 ⊢
  have E4 : Ext h.size h h4 := E3'.trans (e4.mono E3'.1)
  refine litB [0] (fun h5 o5 e5 z5 => ?_) (by decide)
  have E5 : Ext h.size h h5 := E4.trans (e5.mono E4.1)
  refine appBo ((o3.ext' e4).ext' e5) o5.rd (by simp [hlen]) fun s6 h6 o6 g6 q6 => ?_
  have hle : h2.size ≤ h4.size := by have := E3.1; have := e4.1; omega
  have E6' : Ext h2.size h5 h6 := g6.ext f3 (by have := e5.1; omega)
  have E6 : Ext h.size h h6 := E5.trans (E6'.mono E2.1)
  have w0 : wholeM (frameM hiP ++ [0]) = ([], eForm) := by unfold wholeM; rw [takeM_frame hiP _ (by decide), if_pos (by decide)]
  have hf4 : r4.from_ h3.size := f4
  have o4' : Own h6 1 r4 (cB hiP) := (o4.ext' e5).upd g6.upd fun g hg e => by
    have h1 := f4 g hg
    have h2 := o3.below g e
    omega
  refine frame_Whole_ok o6.rd o6.2.1 (by simp [hlen]) fun r7 h7 o7 f7 e7 => ?_
  rw [w0]
  have E7 : Ext h.size h h7 := E6.trans (e7.mono E6.1)
  refine appE (q6.ext' e7) (by omega) fun s8 h8 o8 f8 e8 => ?_
  have E8 : Ext h.size h h8 := E7.trans (e8.mono E7.1)
  refine litB [1, 2] (fun h9 o9 e9 z9 => ?_) (by decide)
  have E9 : Ext h.size h h9 := E8.trans (e9.mono E8.1)
  refine appB (o8.ext' e9) o9.rd (by simp [hlen]) fun s10 h10 o10 g10 => ?_
  have le7 : h7.size ≤ h9.size := by have := e8.1; have := e9.1; omega
  have E10' : Ext h7.size h9 h10 := g10.ext f8 le7
  have E10 : Ext h.size h h10 := E9.trans (E10'.mono E7.1)
  have E710 : Ext h7.size h7 h10 := (e8.trans (e9.mono e8.1)).trans E10'
  refine frame_All_ok o10.rd o10.2.1 (by simp [hlen]) fun out bs h11 o11 hb11 e11 => ?_
  have am : allM (frameM hiP ++ [1, 2]) ((frameM hiP ++ [1, 2]).length + 1) [] 0 = ([hiP], 10, 2) := allM_hi
  rw [am] at hb11 ⊢
  have E11 : Ext h.size h h11 := E10.trans (e11.mono E10.1)
  have qr : RdS h11 1 r (cB (frameM hiP)) := ((q6.ext' e7).ext' E710).ext' e11
  have q4 : RdS h11 1 r4 (cB hiP) := ((o4'.rd.ext' e7).ext' E710).ext' e11
  have fr : frameM hiP = 0 :: 2 :: 255 :: 253 :: (hiP ++ le4 (crcOf hiP)) := rfl
  have ix : ∀ (i : Nat) (v : UInt8) (K : Int → Prop), (frameM hiP)[i]? = some v → K (v.toNat : Nat) → Ix r (i : Int) 1 fun e => Ld (.int .u8) h11 e K := fun i v K hv hk => by
    obtain ⟨h1, h2⟩ := List.getElem?_eq_some_iff.1 hv
    exact ixcB qr i rfl h1 (by rw [h2]; exact hk)
  have hbl : out.n = 1 := by
    have h1 := ownn o11.1
    have h2 := congrArg List.length hb11
    simp only [BAx, List.length_map, List.length_cons, List.length_nil] at h2
    omega
  refine brY rfl (ix 0 0 _ rfl (brY rfl (ix 1 2 _ rfl (brY rfl (ix 2 255 _ rfl (brY rfl (ix 3 253 _ rfl (brY rfl (toS BT q4 ?_)))))))))
  refine brY (by rw [strB_toList, show (⟨#[104, 105]⟩ : ByteArray).toList = hiP from strB_toList hiP]; rfl) (brY rfl (brY rfl (brY rfl (brY (by rw [hbl]; rfl) (brY rfl (brY rfl ?_))))))
  refine frame_Size_ok (by decide) (by decide) (brY rfl ?_)
  refine A_frame_Size ?_
  exact hR h11 E11
/-! ## FrameReads -/
set_option maxRecDepth 100000 in
theorem law03_FrameReads_ok {b : Sl} {h : Heap} {l : List UInt8} (w0 : Arg h 1 b (cB l) ∧ b.below h.size ∧ b.c ≤ 140737488351232) : C_law03_FrameReads b h fun r h' => r = true ∧ Ext h.size h h' := by
  refine A_law03_FrameReads ?_
  unfold S_law03_FrameReads
  obtain ⟨ha, hb, _⟩ := w0
  have hn := rd_b ha.rd
  have hle := ha.le
  refine law03_fixed_ok fun h0 e0 => brN rfl (brD (fun _ => ⟨rfl, e0⟩) fun hc => ?_)
  refine frame_Take_ok (ha.rd.ext e0 hb) hle (by omega) fun r1 h1 o1 f1 e1 => ?_
  have E1 : Ext h.size h h1 := e0.trans (e1.mono e0.1)
  refine ref03_Take_ok (ha.rd.ext E1 hb) hle (by omega) fun r2 h2 o2 f2 e2 => ?_
  have E2 : Ext h.size h h2 := E1.trans (e2.mono E1.1)
  refine frame_All_ok (ha.rd.ext E2 hb) hle (by omega) fun out3 bs3 h3 o3 hb3 e3 => ?_
  have E3 : Ext h.size h h3 := E2.trans (e3.mono E2.1)
  refine ref03_All_ok (ha.rd.ext E3 hb) hle (by omega) fun out4 bs4 h4 o4 hb4 e4 => ?_
  have E4 : Ext h.size h h4 := E3.trans (e4.mono E3.1)
  refine frame_Whole_ok (ha.rd.ext E4 hb) hle (by omega) fun r5 h5 o5 f5 e5 => ?_
  have E5 : Ext h.size h h5 := E4.trans (e5.mono E4.1)
  have q1 := ((((o1.ext' e2).ext' e3).ext' e4).ext' e5).rd
  have q2 := (((o2.ext' e3).ext' e4).ext' e5).rd
  have q3 : OutB h2.size h5 out3 bs3 := (o3.ext e4).ext e5
  have q4 : OutB h2.size h5 out4 bs4 := ⟨(o4.ext e5).1, (fun g hg => Nat.le_trans e3.1 ((o4.ext e5).2.1 g hg)), fun a ha => ⟨((o4.ext e5).2.2 a ha).1, (fun g hg => Nat.le_trans e3.1 (((o4.ext e5).2.2 a ha).2.1 g hg)), ((o4.ext e5).2.2 a ha).2.2⟩⟩
  refine brN (by simp) (brN (by simp) (toS BT q1 (toS BT q2 (brN (by simp) (brN (by simp) (brN (by simp) ?_))))))
  have hbl : ∀ bs : List BA, BAx bs = (allM l (l.length + 1) [] 0).1 → bs.length ≤ 1000 := fun bs hbs => by
    have key : ∀ (f a : Nat) (ps : List (List UInt8)), ps.length ≤ a → a ≤ l.length → (allM l f ps a).1.length ≤ l.length := by
      intro f
      induction f with
      | zero => intro a ps h1 h2; show ps.length ≤ _; omega
      | succ f ih =>
        intro a ps h1 h2
        rw [allM]
        split
        · split
          · show ps.length ≤ _; omega
          · rename_i hh hz
            obtain ⟨t1, t2, _, _⟩ := takeM_ok (Classical.not_not.1 hz)
            rw [List.length_drop] at t2
            exact ih _ _ (by rw [List.length_append]; simp; omega) (by omega)
        · show ps.length ≤ _; omega
    have h1 := key (l.length + 1) 0 [] (by simp) (Nat.zero_le _)
    rw [← hbs, BAx, List.length_map] at h1
    omega
  refine law03_same_ok q3 q4 (by have := hbl bs3 hb3; omega) (by have := hbl bs4 hb4; omega) (brN (by rw [hb3, hb4]; simp) ?_)
  have n5 := rd_b o5.rd
  refine br beq_iff_eq (fun hz => brD (fun hlt => ?_) fun hlt => ?_) fun hz => ?_
  · have w : wholeM l = ([], eForm) := by unfold wholeM; rw [if_pos ⟨hz, by omega⟩]
    rw [w] at n5 ⊢
    exact brY rfl ⟨by rw [n5]; rfl, E5⟩
  · have w : wholeM l = ((takeM l).1, (takeM l).2.2) := by unfold wholeM; rw [if_neg (by omega)]
    rw [w] at o5 ⊢
    exact brY (by simp) (toS BT o5.rd (toS BT q1 ⟨by simp, E5⟩))
  · have w : wholeM l = ((takeM l).1, (takeM l).2.2) := by unfold wholeM; rw [if_neg fun x => hz x.1]
    rw [w] at o5 ⊢
    exact brY (by simp) (toS BT o5.rd (toS BT q1 ⟨by simp, E5⟩))
/-! ## FrameTurned -/
set_option maxRecDepth 100000 in
theorem law03_FrameTurned_ok {payload behind : Sl} {at_ by_ : Int} {h : Heap} {p q : List UInt8} (w0 : Arg h 1 payload (cB p) ∧ payload.below h.size ∧ payload.c ≤ 140737488351232) (w1 : Arg h 1 behind (cB q) ∧ behind.below h.size ∧ behind.c ≤ 140737488351232)
    (w2 : -9223372036854775808 ≤ at_ ∧ at_ ≤ 9223372036854775807) (w3 : 0 ≤ by_ ∧ by_ ≤ 255) : C_law03_FrameTurned payload behind at_ by_ h fun r h' => r = true ∧ Ext h.size h h' := by
  refine A_law03_FrameTurned ?_
  unfold S_law03_FrameTurned
  obtain ⟨hp, hpb, hpc⟩ := w0
  obtain ⟨hq, hqb, hqc⟩ := w1
  have hpn := rd_b hp.rd
  have hqn := rd_b hq.rd
  have hple := hp.le
  have hqle := hq.le
  obtain ⟨y, rfl⟩ : ∃ n : UInt8, by_ = n.toNat := ⟨UInt8.ofNat by_.toNat, by simp; omega⟩
  refine law03_fixed_ok fun h0 e0 => brN rfl ?_
  rw [w64 (by omega) (by omega)]
  refine brD (fun _ => ⟨rfl, e0⟩) fun hc => br beq_iff_eq (fun _ => ⟨rfl, e0⟩) fun hc2 => ?_
  refine frame_Put_ok (x := []) (Own.nil _ _) (hp.rd.ext e0 hpb) (fun _ g _ e => by simp [Sl.blk] at e) (by decide) (fun hx => by omega) fun _ r h1 o1 g1 => ?_
  rw [List.nil_append] at o1
  have f1 : r.from_ h0.size := by
    rcases g1.blk with e | e
    · intro g hg; rw [e] at hg; simp [Sl.blk] at hg
    · exact e
  have E1' : Ext h0.size h0 h1 := g1.upd.ext (Nat.le_refl _) fun g _ e => by simp [Sl.blk] at e
  have E1 : Ext h.size h h1 := e0.trans (E1'.mono e0.1)
  have hfl := frameM_length p
  have n1 := rd_b o1.rd
  rw [wu64 (n := (r.n : Int)) (by omega) (by omega)]
  refine nz (by omega) ?_
  rw [rem_nonneg (by rw [wrU64]; omega)]
  have m0 : 0 ≤ IntKind.u64.wrap at_ % (r.n : Int) := Int.emod_nonneg _ (by omega)
  have m1 : IntKind.u64.wrap at_ % (r.n : Int) < (r.n : Int) := Int.emod_lt_of_pos _ (by omega)
  rw [w64 (by omega) (by omega)]
  generalize IntKind.u64.wrap at_ % (r.n : Int) = k at *
  obtain ⟨k, rfl⟩ : ∃ n : Nat, k = n := ⟨k.toNat, by omega⟩
  have hk : k < (frameM p).length := by omega
  refine let_ (cutB o1.rd 0 k r.c lo0 (hii rfl) (.inl ⟨rfl, rfl⟩) (by omega) (by omega) (by have := o1.2.1; omega) (Nat.le_refl _) fun s2 r2 n2 c2 b2 => ?_)
  rw [List.drop_zero, Nat.sub_zero] at r2
  refine frame_Take_ok r2 (by have := o1.2.1; omega) (by rw [List.length_take]; omega) fun r3 h3 o3 f3 e3 => ?_
  rw [takeM_part p k (by omega) (by omega)] at o3 ⊢
  have E3 : Ext h.size h h3 := E1.trans (e3.mono E1.1)
  have o1' := o1.ext' e3
  refine ixcB o1'.rd k rfl hk ?_
  rw [xorB (UInt8.toNat_lt _) y.toNat_lt]
  refine setO0 o1' k rfl (by omega) (by decide) fun h4 o4 u4 z4 => ?_
  rw [Nat.mul_one, cB_set] at o4
  have hv := xorB_ne (x := (frameM p)[k]) (y := y) (by omega)
  have E4 : Ext h.size h h4 := E3.trans (u4.ext E3.1 fun g hg e => by have := f1 g e; have := e0.1; omega)
  refine appB o4 (hq.rd.ext E4 hqb) (by rw [List.length_set]; omega) fun s5 h5 o5 g5 => ?_
  have E5 : Ext h.size h h5 := E4.trans (g5.ext (fun g hg => by have := f1 g hg; have := e0.1; omega) E4.1)
  refine frame_Take_ok o5.rd o5.2.1 (by rw [List.length_append, List.length_set]; omega) fun r6 h6 o6 f6 e6 => ?_
  have ht := takeM_turn p q k _ (by omega) hk (fun e => hv (by rw [List.getElem?_eq_getElem hk] at e; injection e with e; exact e.symm))
  obtain ⟨t1, t2⟩ := takeM_err ht
  have n6 := rd_b o6.rd
  rw [t1] at n6
  rw [t2]
  exact brY rfl (brY (by simpa using ht) (brY rfl ⟨by rw [n6]; rfl, E5.trans (e6.mono E5.1)⟩))
/-! ## FramePuts -/
theorem zeros_cB (n : Nat) : (List.replicate n [Value.int .u8 0]).flatten = cB (List.replicate n 0) := by
  induction n with
  | zero => rfl
  | succ n ih => rw [List.replicate_succ, List.flatten_cons, ih]; rfl
theorem ZB : ZeroT Try.prog 5 [.int .u8 0] := ⟨by kernel_rfl⟩
set_option maxRecDepth 100000 in
theorem law03_FramePuts_ok {ahead payload behind : Sl} {more : Int} {h : Heap} {x p q : List UInt8} (w0 : Arg h 1 ahead (cB x) ∧ ahead.below h.size ∧ ahead.c ≤ 140737488351232) (w1 : Arg h 1 payload (cB p) ∧ payload.below h.size ∧ payload.c ≤ 140737488351232) (w2 : Arg h 1 behind (cB q) ∧ behind.below h.size ∧ behind.c ≤ 140737488351232)
    (w3 : 0 ≤ more ∧ more ≤ 255) : C_law03_FramePuts ahead payload behind more h fun r h' => r = true ∧ Ext h.size h h' := by
  refine A_law03_FramePuts ?_
  unfold S_law03_FramePuts
  obtain ⟨hx, hxb, hxc⟩ := w0
  obtain ⟨hp, hpb, hpc⟩ := w1
  obtain ⟨hq, hqb, hqc⟩ := w2
  have hxn := rd_b hx.rd
  have hpn := rd_b hp.rd
  have hqn := rd_b hq.rd
  have hxle := hx.le
  have hple := hp.le
  have hqle := hq.le
  refine law03_fixed_ok fun h0 e0 => brN rfl ?_
  rw [w64 (n := (ahead.n : Int) + payload.n) (by omega) (by omega), w64 (by omega) (by omega)]
  refine brD (fun _ => ⟨rfl, e0⟩) fun hc => ?_
  refine appE (hx.rd.ext e0 hxb) (by omega) fun s1 h1 o1 f1 e1 => ?_
  have E1 : Ext h.size h h1 := e0.trans (e1.mono e0.1)
  refine frame_Put_ok o1 (hp.rd.ext E1 hpb) (fun _ g hg e => by have := hpb g hg; have := f1 g e; have := e0.1; omega) (by omega) (fun hx => by omega) fun _ r2 h2 o2 g2 => brN rfl ?_
  have E2 : Ext h.size h h2 := E1.trans (g2.ext (fun g hg => by have := f1 g hg; have := e0.1; omega) E1.1)
  have f2 : r2.from_ h.size := g2.from_ (fun g hg => by have := f1 g hg; have := e0.1; omega) E1.1
  refine toS BT o2.rd (toS BT (hx.rd.ext E2 hxb) ?_)
  refine ref03_Put_ok (hp.rd.ext E2 hpb) (by omega) fun r3 h3 o3 f3 e3 => ?_
  have E3 : Ext h.size h h3 := E2.trans (e3.mono E2.1)
  have hfl := frameM_length p
  have o2' := o2.ext' e3
  refine ⟨toS BT o2'.rd rfl, toS BT (hx.rd.ext E3 hxb) rfl, toS BT o3.rd (cat (by rw [strB_size, strB_size]; omega) ?_)⟩
  have n2 := rd_b o2.rd
  rw [List.length_append] at n2
  refine brN (by rw [strB_append, strB_toList]; simp) (frame_Size_ok (by omega) (by omega) (brN (by rw [w64 (by omega) (by omega), bne_eq_false_iff_eq]; omega) ?_))
  refine cutBO o2' x.length (x ++ frameM p).length r2.c (loi (by omega)) (.inl ⟨rfl, by rw [List.length_append]; omega⟩) (.inl ⟨rfl, rfl⟩) (by rw [List.length_append]; omega) (Nat.le_refl _) (by rw [List.length_append]; have := o2.2.1; omega) (Nat.le_refl _) fun s4 o4 n4 c4 b4 => ?_
  have ed : ((x ++ frameM p).drop x.length).take ((x ++ frameM p).length - x.length) = frameM p := by rw [List.drop_left, List.take_of_length_le (by rw [List.length_append]; omega)]
  rw [ed] at o4
  refine appB o4 (hq.rd.ext E3 hqb) (by omega) fun s5 h5 o5 g5 => ?_
  have E5 : Ext h.size h h5 := E3.trans (g5.ext (fun g hg => f2 g (by rw [← b4]; exact hg)) E3.1)
  refine frame_Take_ok o5.rd o5.2.1 (by rw [List.length_append]; omega) fun r6 h6 o6 f6 e6 => ?_
  rw [takeM_frame p q (by omega)] at o6 ⊢
  have E6 : Ext h.size h h6 := E5.trans (e6.mono E5.1)
  refine brN rfl (toS BT o6.rd (toS BT (hp.rd.ext E6 hpb) (brN (by simp) (frame_Size_ok (by omega) (by omega) (brN (by rw [bne_eq_false_iff_eq]; show ((p.length + 8 : Nat) : Int) = _; omega) ?_)))))
  rw [w64 (n := more) (by omega) (by omega), w64 (by omega) (by omega)]
  obtain ⟨m, rfl⟩ : ∃ n : Nat, more = n := ⟨more.toNat, by omega⟩
  refine mk TB1 ZB (4000 + m) (4000 + m) (by omega) (by omega) (Nat.le_refl _) (by omega) (by omega) fun h7 b7 e7 z7 => ?_
  rw [zeros_cB] at b7
  have E7 : Ext h.size h h7 := E6.trans (e7.mono E6.1)
  have r7 : RdS h7 1 ⟨some ⟨h6.size, 0, none⟩, 4000 + m, 4000 + m⟩ (cB (List.replicate (4000 + m) 0)) := (Own.full b7 (sz := 1) (n := 4000 + m) (by rw [cB_length]; simp) (by omega)).rd
  have hrl : (List.replicate (4000 + m) (0 : UInt8)).length = 4000 + m := List.length_replicate
  refine frame_Put_ok (x := []) (Own.nil _ _) r7 (fun _ g _ e => by simp [Sl.blk] at e) (by decide) (fun hgt => ?_) fun hle r8 h8 o8 g8 => ?_
  · rw [hrl] at hgt
    refine brY (decide_eq_true (by show ((4000 + m : Nat) : Int) > 4096; omega)) ?_
    refine join1 (s1 := .one .bool) (fun (b : Bool) h8 => b = true ∧ h8 = h7) (fun _ (b : Bool) h8 hJ => ?_) (brY rfl ⟨rfl, rfl⟩)
    obtain ⟨rfl, rfl⟩ := hJ
    exact ⟨rfl, E7⟩
  · rw [hrl] at hle
    rw [List.nil_append] at o8
    have E8 : Ext h.size h h8 := E7.trans ((g8.upd.ext (Nat.le_refl _) fun g _ e => by simp [Sl.blk] at e).mono E7.1)
    refine brN (decide_eq_false (by show ¬ ((4000 + m : Nat) : Int) > 4096; omega)) ?_
    have hl8 := frameM_length (List.replicate (4000 + m) (0 : UInt8))
    refine frame_Whole_ok o8.rd o8.2.1 (by omega) fun r9 h9 o9 f9 e9 => ?_
    have w : wholeM (frameM (List.replicate (4000 + m) 0)) = (List.replicate (4000 + m) 0, 0) := by
      have := takeM_frame (List.replicate (4000 + m) 0) [] (by omega)
      rw [List.append_nil] at this
      unfold wholeM
      rw [this, if_neg fun x => by have h2 : (List.replicate (4000 + m) (0 : UInt8)).length + 8 < _ := x.2; omega]
    have n9 := rd_b o9.rd
    rw [w] at n9 ⊢
    refine brY rfl (brY rfl ⟨?_, E8.trans (e9.mono E8.1)⟩)
    rw [beq_iff_eq]
    show ((r9.n : Nat) : Int) = ((4000 + m : Nat) : Int)
    rw [n9, hrl]
section
open Go.ChangeShapes Go.WideShapes
variable {H : Type} {enc : TypeId × Value → H} {w : World} {b0 : Nat} {v : Value} {d : DataW H} {ps : List MemPlace}
set_option maxRecDepth 100000 in
theorem args_u8s (hval : Value.okWide Try.prog w .any b0 22 v) (hd : DataW.Trod enc Try.prog w 0 (fun _ => true) true 22 v d ps) (hf : Fits Try.prog 22 d) :
    ∃ (s : Sl) (xs : List UInt8), v = s.v ∧ Arg w.heap 1 s (cB xs) ∧ s.below w.heap.size ∧ s.c ≤ 140737488351232 :=
  args_bytes Try.underlying22 Try.underlying5 (by kernel_rfl) (of_decide_eq_true (by kernel_rfl)) hval hd hf
end
end Go.Proofs.Ytegbnmaglkpkjaa
