/-
  Layer 3 (frame): contracts of the program's calls, and of the document's.
-/
import Derived.Test.YtnognoiaakiepaaC2
import Derived.Test.YtnognoiaakiepaaF1
import Derived.Test.YtnognoiaakiepaaBC
import Derived.Test.YtnognoiaakiepaaSG
namespace Go.Proofs.Ytnognoiaakiepaa
open Go

theorem xor_all8 {r : Nat} (h : r < 256) : 255 ^^^ r = 255 - r := by
  have h1 := BitVec.xor_allOnes (x := BitVec.ofNat 8 r)
  have h2 := congrArg BitVec.toNat h1
  rw [BitVec.toNat_xor, BitVec.toNat_not, BitVec.toNat_ofNat, Nat.mod_eq_of_lt h, BitVec.toNat_allOnes] at h2
  rw [Nat.xor_comm]
  simpa using h2
theorem x255 {a c : Nat} (ha : a < 256) (_hc : c < 256) : a ^^^ c = 255 ↔ a + c = 255 := by
  constructor
  · intro h
    have h2 : c = 255 ^^^ a := by rw [← h, Nat.xor_comm a c, Nat.xor_assoc, Nat.xor_self, Nat.xor_zero]
    rw [xor_all8 ha] at h2
    omega
  · intro h
    have h2 : c = 255 ^^^ a := by rw [xor_all8 ha]; omega
    rw [h2, Nat.xor_comm 255, ← Nat.xor_assoc, Nat.xor_self, Nat.zero_xor]
theorem four {l : List UInt8} (h : 4 ≤ l.length) : ∃ a b c d r, l = a :: b :: c :: d :: r := by
  match l, h with
  | a :: b :: c :: d :: r, _ => exact ⟨a, b, c, d, r, rfl⟩
theorem takeM_short {l : List UInt8} (h : l.length < 4) : takeM l = ([], 0, eForm) := by
  match l, h with
  | [], _ => rfl
  | [_], _ => rfl
  | [_, _], _ => rfl
  | [_, _, _], _ => rfl
section
variable {h : Heap}
theorem frame_Size_ok {n : Int} {R : Int → Heap → Prop} (h0 : 0 ≤ n) (hn : n ≤ 1000000000000) (hR : R (n + 8) h) : C_frame_Size n h R := by
  refine A_frame_Size ?_
  unfold S_frame_Size
  rw [if_neg (by omega), w64 (n := 4 + n) (by omega) (by omega), w64 (by omega) (by omega), show 4 + n + 4 = n + 8 by omega]
  exact hR
set_option maxRecDepth 100000 in
theorem frame_Take_ok {b : Sl} {l : List UInt8} {R : Sl → Int → Int → Heap → Prop} (hb : RdS h 1 b (cB l)) (hbc : b.n ≤ b.c) (hl : l.length ≤ 1000000000000)
    (hR : ∀ r h', Own h' 1 r (cB (takeM l).1) → r.from_ h.size → Ext h.size h h' → R r ((takeM l).2.1 : Nat) (takeM l).2.2 h') : C_frame_Take b h R := by
  refine A_frame_Take ?_
  unfold S_frame_Take
  have hn := rd_b hb
  have bad : ∀ e : Int, takeM l = ([], 0, e) → R ⟨none, 0, 0⟩ 0 e h := fun e he => by
    have := hR ⟨none, 0, 0⟩ h (by rw [he]; exact Own.nil _ _) (fun g hg => by simp [Sl.blk] at hg) (Ext.refl _ _)
    rwa [he] at this
  refine brD (fun hc => bad _ (takeM_short (by omega))) fun hc => ?_
  obtain ⟨a, b1, c, d, r, rfl⟩ := four (l := l) (by omega)
  · have ha := a.toNat_lt
    have hb1 := b1.toNat_lt
    have hc0 := c.toNat_lt
    have hd := d.toNat_lt
    simp only [List.length_cons] at hn hl
    refine ixcB hb 0 rfl (by simp) (nneg (by decide) (ixcB hb 1 rfl (by simp) ?_))
    simp only [List.getElem_cons_zero, List.getElem_cons_succ]
    rw [shl_or_i64 (by omega) (by omega)]
    refine let_ ?_
    have tc := takeM_cons a b1 c d r
    refine join0 (fun h' => h' = h ∧ (a.toNat + c.toNat = 255 ∧ b1.toNat + d.toNat = 255) ∧ a.toNat * 256 + b1.toNat ≤ 4096 ∧ a.toNat * 256 + b1.toNat + 4 ≤ r.length) (fun _ h' hJ => ?_) ?_
    · obtain ⟨rfl, h1, h2, h3⟩ := hJ
      rw [if_pos h1, if_neg (by omega), if_neg (by omega)] at tc
      generalize hN : a.toNat * 256 + b1.toNat = n at *
      rw [w64 (by omega) (by omega)]
      refine cutB hb 4 (4 + n) b.c (loi rfl) (hii (by omega)) (.inl ⟨rfl, rfl⟩) (by omega) (by simp; omega) (by omega) (Nat.le_refl _) fun s r1 n1 c1 bl1 => ?_
      refine frame_Size_ok (by omega) (by omega) ?_
      refine cutB hb (4 + n) (n + 8) b.c (loi (by omega)) (hii (by omega)) (.inl ⟨rfl, rfl⟩) (by omega) (by simp; omega) (by omega) (Nat.le_refl _) fun s2 r2 n2 c2 bl2 => ?_
      have e1 : ((a :: b1 :: c :: d :: r).drop 4).take (4 + n - 4) = r.take n := by rw [show 4 + n - 4 = n by omega]; rfl
      have e2 : ((a :: b1 :: c :: d :: r).drop (4 + n)).take (n + 8 - (4 + n)) = (r.drop n).take 4 := by
        rw [show n + 8 - (4 + n) = 4 by omega, show 4 + n = n + 1 + 1 + 1 + 1 by omega]; rfl
      rw [e1] at r1
      rw [e2] at r2
      refine crc_Check_ok r1 r2 (by rw [List.length_take]; omega) fun h2 e2 => ?_
      refine brB (fun hno => ?_) fun hyes => ?_
      · rw [if_neg (by simpa using hno)] at tc
        have := hR ⟨none, 0, 0⟩ h2 (by rw [tc]; exact Own.nil _ _) (fun g hg => by simp [Sl.blk] at hg) e2
        rwa [tc] at this
      · rw [if_pos (by simpa using hyes)] at tc
        refine bytes_Clone_ok (r1.ext' e2) (by rw [List.length_take]; omega) fun r3 h3 o3 f3 e3 => ?_
        refine frame_Size_ok (by omega) (by omega) ?_
        have := hR r3 h3 (by rw [tc]; exact o3) (fun g hg => Nat.le_trans e2.1 (f3 g hg)) (e2.trans (e3.mono e2.1))
        rw [tc] at this
        have e8 : ((n + 8 : Nat) : Int) = (n : Int) + 8 := by omega
        rw [← e8]; exact this
    · refine ixcB hb 0 rfl (by simp) (ixcB hb 2 rfl (by simp) ?_)
      simp only [List.getElem_cons_zero, List.getElem_cons_succ]
      rw [xor_u8' (by omega) (by omega)]
      refine brB (fun hx => ?_) fun hx => ?_
      · rw [if_neg fun hh => by rw [(x255 (by omega) (by omega)).2 hh.1] at hx; simp at hx] at tc
        exact bad _ tc
      have hx1 : a.toNat + c.toNat = 255 := (x255 (by omega) (by omega)).1 (Int.ofNat.inj (by simpa using hx))
      refine ixcB hb 1 rfl (by simp) (ixcB hb 3 rfl (by simp) ?_)
      simp only [List.getElem_cons_zero, List.getElem_cons_succ]
      rw [xor_u8' (by omega) (by omega)]
      refine brB (fun hx => ?_) fun hx => ?_
      · rw [if_neg fun hh => by rw [(x255 (by omega) (by omega)).2 hh.2] at hx; simp at hx] at tc
        exact bad _ tc
      have hx2 : b1.toNat + d.toNat = 255 := (x255 (by omega) (by omega)).1 (Int.ofNat.inj (by simpa using hx))
      rw [if_pos ⟨hx1, hx2⟩] at tc
      refine brD (fun hgt => ?_) fun hgt => ?_
      · rw [if_pos (by omega)] at tc; exact bad _ tc
      rw [if_neg (by omega)] at tc
      refine frame_Size_ok (by omega) (by omega) (brD (fun hlt => ?_) fun hlt => ⟨rfl, ⟨hx1, hx2⟩, by omega, by omega⟩)
      rw [if_pos (by omega)] at tc
      exact bad _ tc
theorem frame_Whole_ok {b : Sl} {l : List UInt8} {R : Sl → Int → Heap → Prop} (hb : RdS h 1 b (cB l)) (hbc : b.n ≤ b.c) (hl : l.length ≤ 1000000000000)
    (hR : ∀ r h', Own h' 1 r (cB (wholeM l).1) → r.from_ h.size → Ext h.size h h' → R r (wholeM l).2 h') : C_frame_Whole b h R := by
  refine A_frame_Whole ?_
  unfold S_frame_Whole
  have hn := rd_b hb
  unfold wholeM at hR
  refine frame_Take_ok hb hbc hl fun r h' o f e => br beq_iff_eq (fun h0 => brD (fun hlt => ?_) fun hlt => ?_) fun h0 => ?_
  · rw [if_pos ⟨h0, by omega⟩] at hR
    exact hR _ h' (Own.nil _ _) (fun g hg => by simp [Sl.blk] at hg) e
  · rw [if_neg (by omega)] at hR
    exact hR r h' o f e
  · rw [if_neg fun x => h0 x.1] at hR
    exact hR r h' o f e
/-! ## Put -/
def hdrB (p : List UInt8) : List UInt8 := [hiB p, loB p, 255 - hiB p, 255 - loB p]
theorem hdr_cells {n : Nat} {p : List UInt8} (hn : n = p.length) (hp : p.length < 65536) {x y : Int} (hx : x = (n : Int) / 256) (hy : y % 256 = (n : Int) % 256) :
    ([.int .u8 (IntKind.u8.wrap x), .int .u8 (IntKind.u8.wrap y), .int .u8 (IntKind.u8.wrap (255 - IntKind.u8.wrap x)), .int .u8 (IntKind.u8.wrap (255 - IntKind.u8.wrap y))] : List Value) = cB (hdrB p) := by
  have h1 := hi_nat hp
  have h2 := lo_nat p
  have s1 := sub255 (hiB p)
  have s2 := sub255 (loB p)
  have e1 : IntKind.u8.wrap x = ((hiB p).toNat : Nat) := by rw [wrU8]; omega
  have e2 : IntKind.u8.wrap y = ((loB p).toNat : Nat) := by rw [wrU8]; omega
  have e3 : IntKind.u8.wrap (255 - ((hiB p).toNat : Int)) = ((255 - hiB p).toNat : Nat) := by rw [wrU8]; omega
  have e4 : IntKind.u8.wrap (255 - ((loB p).toNat : Int)) = ((255 - loB p).toNat : Nat) := by rw [wrU8]; omega
  rw [e1, e2, e3, e4]
  rfl
theorem frameM_eq (p : List UInt8) : hdrB p ++ p ++ le4 (crcOf p) = frameM p := by simp [hdrB, frameM]
theorem ref03_Put_ok {q : Sl} {p : List UInt8} {R : Sl → Heap → Prop} (hq : RdS h 1 q (cB p)) (hp : p.length < 65536) (hR : ∀ r h', Own h' 1 r (cB (frameM p)) → r.from_ h.size → Ext h.size h h' → R r h') : C_ref03_Put q h R := by
  refine A_ref03_Put ?_
  unfold S_ref03_Put
  have hn := rd_b hq
  refine nz (by decide) (nz (by decide) (let_ (let_ ?_)))
  have q1 : divV .quo .i64 (q.n : Int) 256 = (q.n : Int) / 256 := quo_i64 (by omega) (by omega) (by decide)
  rw [q1, rem_nonneg (by omega)]
  have hc := hdr_cells hn hp (x := (q.n : Int) / 256) (y := (q.n : Int) % 256) rfl (by omega)
  refine alloc (cs := _) fun h1 b1 e1 z1 => ?_
  rw [hc] at b1
  have o1 : Own h1 1 ⟨some ⟨h.size, 0, none⟩, 4, 4⟩ (cB (hdrB p)) := Own.full b1 (sz := 1) (n := 4) (by rfl) (by decide)
  refine appB o1 (hq.ext' e1) (by simp [hdrB]; omega) fun s2 h2 o2 g2 => ?_
  have f1 : (⟨some ⟨h.size, 0, none⟩, 4, 4⟩ : Sl).from_ h.size := fun g hg => by simp [Sl.blk] at hg; omega
  have f2 := g2.from_ f1 e1.1
  have E2 : Ext h.size h h2 := e1.trans (g2.ext f1 e1.1)
  refine ref02_Of_ok (hq.ext' E2) (by omega) (ref02_Bytes_ok (crcOf_lt _) fun r3 h3 o3 f3 e3 => ?_)
  refine appB (o2.ext' e3) o3.rd (by simp [hdrB, le4_length]; omega) fun s4 h4 o4 g4 => ?_
  have E3 : Ext h.size h h3 := E2.trans (e3.mono E2.1)
  rw [frameM_eq] at o4
  exact hR s4 h4 o4 (g4.from_ f2 E3.1) (E3.trans (g4.ext f2 E3.1))
theorem frame_Put_ok {b q : Sl} {x p : List UInt8} {R : Sl → Int → Heap → Prop} (hb : Own h 1 b (cB x)) (hq : RdS h 1 q (cB p)) (hd : p ≠ [] → ∀ g, q.blk = some g → b.blk ≠ some g) (hx : x.length ≤ 1000000000)
    (h1 : 4096 < p.length → R ⟨none, 0, 0⟩ 4 h) (h2 : p.length ≤ 4096 → ∀ r h', Own h' 1 r (cB (x ++ frameM p)) → Grw h b h' r → R r 0 h') : C_frame_Put b q h R := by
  refine A_frame_Put ?_
  unfold S_frame_Put
  have hn := rd_b hq
  refine let_ (brD (fun hc => h1 (by omega)) fun hc => nneg (by decide) (let_ (let_ ?_)))
  have q1 := shr8_i64 (q.n : Int)
  rw [q1]
  have hcl := hdr_cells hn (by omega) (x := (q.n : Int) / 256) (y := (q.n : Int)) rfl rfl
  refine alloc (cs := _) fun h1' b1 e1 z1 => ?_
  rw [hcl] at b1
  have o1 : Own h1' 1 ⟨some ⟨h.size, 0, none⟩, 4, 4⟩ (cB (hdrB p)) := Own.full b1 (sz := 1) (n := 4) (by rfl) (by decide)
  have hne : 0 < (cB p).length → ∀ g, q.blk = some g → b.blk ≠ some g := fun h0 => hd fun e => by rw [e] at h0; simp [cB] at h0
  refine appB (hb.ext' e1) o1.rd (by simp [hdrB]; omega) fun s2 h2' o2 g2 => ?_
  have q2 : RdS h2' 1 q (cB p) := (hq.ext' e1).upd' g2.upd fun h0 g hg => hne h0 g hg
  have G2 : Grw h b h2' s2 := (Grw.of_ext b e1).trans g2
  have hne2 : 0 < (cB p).length → ∀ g, q.blk = some g → s2.blk ≠ some g := fun h0 g hg e => by
    rcases G2.blk with e2 | e2
    · exact hne h0 g hg (by rw [← e2]; exact e)
    · have := e2 g e
      have := hq.below h0 g hg
      omega
  refine appB o2 q2 (by simp [hdrB]; omega) fun s3 h3' o3 g3 => ?_
  have q3 : RdS h3' 1 q (cB p) := q2.upd' g3.upd fun h0 g hg => hne2 h0 g hg
  have G3 := G2.trans g3
  refine crc_Of_ok q3 (by omega) fun h4 e4 => crc_Bytes_ok (crcOf_lt _) fun r5 h5 o5 f5 e5 => ?_
  have G4 := G3.trans (Grw.of_ext s3 e4)
  have G5 := G4.trans (Grw.of_ext s3 e5)
  refine appB ((o3.ext' e4).ext' e5) o5.rd (by simp [hdrB, le4_length]; omega) fun s6 h6 o6 g6 => ?_
  have e : x ++ hdrB p ++ p ++ le4 (crcOf p) = x ++ frameM p := by rw [← frameM_eq]; simp
  rw [e] at o6
  exact h2 (by omega) s6 h6 o6 (G5.trans g6)
/-! ## The document's Take -/
theorem head_eq {a b c d : UInt8} {p : List UInt8} (hp : p.length = a.toNat * 256 + b.toNat) (h1 : a.toNat + c.toNat = 255) (h2 : b.toNat + d.toNat = 255) : frameM p = a :: b :: c :: d :: (p ++ le4 (crcOf p)) := by
  have ha := a.toNat_lt
  have hb := b.toNat_lt
  have e1 : hiB p = a := UInt8.toNat_inj.1 (by rw [hi_nat (by omega)]; omega)
  have e2 : loB p = b := UInt8.toNat_inj.1 (by rw [lo_nat]; omega)
  have e3 : 255 - hiB p = c := UInt8.toNat_inj.1 (by rw [sub255, e1]; omega)
  have e4 : 255 - loB p = d := UInt8.toNat_inj.1 (by rw [sub255, e2]; omega)
  unfold frameM
  rw [e3, e4, e1, e2]
set_option maxRecDepth 100000 in
theorem ref03_Take_ok {b : Sl} {l : List UInt8} {R : Sl → Int → Int → Heap → Prop} (hb : RdS h 1 b (cB l)) (hbc : b.n ≤ b.c) (hl : l.length ≤ 1000000000000)
    (hR : ∀ r h', Own h' 1 r (cB (takeM l).1) → r.from_ h.size → Ext h.size h h' → R r ((takeM l).2.1 : Nat) (takeM l).2.2 h') : C_ref03_Take b h R := by
  refine A_ref03_Take ?_
  unfold S_ref03_Take
  have hn := rd_b hb
  have bad : ∀ e : Int, takeM l = ([], 0, e) → R ⟨none, 0, 0⟩ 0 e h := fun e he => by
    have := hR ⟨none, 0, 0⟩ h (by rw [he]; exact Own.nil _ _) (fun g hg => by simp [Sl.blk] at hg) (Ext.refl _ _)
    rwa [he] at this
  refine brD (fun hc => bad _ (takeM_short (by omega))) fun hc => ?_
  obtain ⟨a, b1, c, d, r, rfl⟩ := four (l := l) (by omega)
  · have ha := a.toNat_lt
    have hb1 := b1.toNat_lt
    have hc0 := c.toNat_lt
    have hd := d.toNat_lt
    simp only [List.length_cons] at hn hl
    have tc := takeM_cons a b1 c d r
    refine ixcB hb 0 rfl (by simp) (ixcB hb 2 rfl (by simp) ?_)
    simp only [List.getElem_cons_zero, List.getElem_cons_succ]
    rw [wrU8]
    refine brB (fun hx => ?_) fun hx => ?_
    · rw [if_neg fun hh => by rw [bne_iff_ne] at hx; omega] at tc
      exact bad _ tc
    have hx1 : a.toNat + c.toNat = 255 := by rw [bne_eq_false_iff_eq] at hx; omega
    refine ixcB hb 1 rfl (by simp) (ixcB hb 3 rfl (by simp) ?_)
    simp only [List.getElem_cons_zero, List.getElem_cons_succ]
    rw [wrU8]
    refine brB (fun hx => ?_) fun hx => ?_
    · rw [if_neg fun hh => by rw [bne_iff_ne] at hx; omega] at tc
      exact bad _ tc
    have hx2 : b1.toNat + d.toNat = 255 := by rw [bne_eq_false_iff_eq] at hx; omega
    rw [if_pos ⟨hx1, hx2⟩] at tc
    refine ixcB hb 0 rfl (by simp) (ixcB hb 1 rfl (by simp) ?_)
    simp only [List.getElem_cons_zero, List.getElem_cons_succ]
    rw [w64 (n := (a.toNat : Int)) (by omega) (by omega), w64 (n := (b1.toNat : Int)) (by omega) (by omega), w64 (n := (a.toNat : Int) * 256) (by omega) (by omega), w64 (by omega) (by omega)]
    have eN : (a.toNat : Int) * 256 + b1.toNat = ((a.toNat * 256 + b1.toNat : Nat) : Int) := by omega
    rw [eN]
    refine let_ ?_
    have hp : ∀ p : List UInt8, p.length = a.toNat * 256 + b1.toNat → frameM p = a :: b1 :: c :: d :: (p ++ le4 (crcOf p)) := fun p hp => head_eq hp hx1 hx2
    generalize a.toNat * 256 + b1.toNat = n at *
    refine brD (fun hgt => ?_) fun hgt => ?_
    · rw [if_pos (by omega)] at tc; exact bad _ tc
    rw [if_neg (by omega)] at tc
    rw [w64 (n := (n : Int) + 8) (by omega) (by omega), w64 (n := (n : Int) + 4) (by omega) (by omega)]
    refine brD (fun hlt => ?_) fun hlt => ?_
    · rw [if_pos (by omega)] at tc; exact bad _ tc
    rw [if_neg (by omega)] at tc
    refine alloc (cs := cB []) fun h1 b1' e1 z1 => ?_
    have o1 : Own h1 1 ⟨some ⟨h.size, 0, none⟩, 0, 0⟩ (cB []) := Own.full b1' (sz := 1) (n := 0) (by rfl) (by decide)
    refine cutB hb 4 (4 + n) b.c (loi rfl) (hii (by omega)) (.inl ⟨rfl, rfl⟩) (by omega) (by simp; omega) (by omega) (Nat.le_refl _) fun s r1 n1 c1 bl1 => ?_
    have ee : ((a :: b1 :: c :: d :: r).drop 4).take (4 + n - 4) = r.take n := by rw [show 4 + n - 4 = n by omega]; rfl
    rw [ee] at r1
    have hpl : (r.take n).length = n := by rw [List.length_take]; omega
    refine appB o1 (r1.ext' e1) (by simp; omega) fun s2 h2 o2 g2 => ?_
    rw [List.nil_append] at o2
    have f1 : (⟨some ⟨h.size, 0, none⟩, 0, 0⟩ : Sl).from_ h.size := fun g hg => by simp [Sl.blk] at hg; omega
    have f2 := g2.from_ f1 e1.1
    have E2 : Ext h.size h h2 := e1.trans (g2.ext f1 e1.1)
    refine cutB hb 0 (n + 8) b.c lo0 (hii (by omega)) (.inl ⟨rfl, rfl⟩) (by omega) (by simp; omega) (by omega) (Nat.le_refl _) fun s3 r3 n3 c3 bl3 => ?_
    have e3 : ((a :: b1 :: c :: d :: r).drop 0).take (n + 8 - 0) = a :: b1 :: c :: d :: r.take (n + 4) := rfl
    rw [e3] at r3
    refine toS BT (r3.ext' E2) ?_
    refine ref03_Put_ok o2.rd (by omega) fun r4 h4 o4 f4 e4 => ⟨toS BT ((r3.ext' E2).ext' e4) rfl, toS BT o4.rd ?_⟩
    have E4 : Ext h.size h h4 := E2.trans (e4.mono E2.1)
    rw [strB_toList, strB_toList, hp _ hpl]
    have key : (a :: b1 :: c :: d :: (r.take n ++ le4 (crcOf (r.take n)))) = (a :: b1 :: c :: d :: r.take (n + 4)) ↔ le4 (crcOf (r.take n)) = (r.drop n).take 4 := by
      have : r.take (n + 4) = r.take n ++ (r.drop n).take 4 := by rw [List.take_add]
      rw [this]
      simp
    refine brB (fun hno => ?_) fun hyes => ?_
    · rw [if_neg fun e => by rw [Bool.not_eq_true', beq_eq_false_iff_ne] at hno; exact hno (key.2 e)] at tc
      have := hR ⟨none, 0, 0⟩ h4 (by rw [tc]; exact Own.nil _ _) (fun g hg => by simp [Sl.blk] at hg) E4
      rwa [tc] at this
    · rw [if_pos (key.1 (by rw [Bool.not_eq_false', beq_iff_eq] at hyes; exact hyes))] at tc
      have := hR s2 h4 (by rw [tc]; exact o2.ext' e4) f2 E4
      rw [tc] at this
      exact this
/-! ## All -/
structure BA where
  s : Sl
  xs : List UInt8
def eBA : Enc BA 1 := ⟨fun a => [a.s.v], fun _ => rfl, by decide, fun x u hu => by simp only [List.mem_singleton] at hu; subst hu; rfl⟩
/-- Slices of bytes, all of them behind B, apart from the block that lists them. -/
def RdBs (h : Heap) (B : Nat) (out : Sl) (bs : List BA) : Prop := RdS h 1 out (eBA.fl bs) ∧ ∀ a ∈ bs, RdS h 1 a.s (cB a.xs) ∧ a.s.from_ B
end
end Go.Proofs.Ytnognoiaakiepaa
