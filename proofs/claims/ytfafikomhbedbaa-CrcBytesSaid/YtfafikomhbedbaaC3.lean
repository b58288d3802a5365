/-
  Layer 2 (crc): the laws CrcSums, CrcTurned, CrcBytes over the heap alone.
-/
import Derived.Test.YtfafikomhbedbaaC2
import Derived.Test.YtfafikomhbedbaaH
namespace Go.Proofs.Ytfafikomhbedbaa
open Go

theorem crcOf_nil : crcOf [] = 0 := rfl
theorem crcOf_app (a b : List UInt8) : 4294967295 - crcReg (4294967295 - crcOf a) b = crcOf (a ++ b) := by
  have := crcReg_lt a (r := 4294967295) (by decide)
  unfold crcOf
  rw [crcReg_append, show 4294967295 - (4294967295 - crcReg 4294967295 a) = crcReg 4294967295 a by omega]
def nine : List UInt8 := [49, 50, 51, 52, 53, 54, 55, 56, 57]
theorem crcOf_nine : crcOf nine = 3808858755 := by decide +kernel
set_option maxRecDepth 100000 in
theorem law02_fixed_ok {h : Heap} {R : Bool → Heap → Prop} (hR : ∀ h', Ext h.size h h' → R true h') : C_law02_fixed h R := by
  refine A_law02_fixed ?_
  unfold S_law02_fixed
  refine crc_New_ok fun h1 t1 e1 z1 => crc_Made_new t1 ?_
  refine alloc (cs := cB nine) fun h2 b2 e2 z2 => frz BT b2 fun h3 b3 u3 z3 => ?_
  have t3 : TNew h3 h.size := (t1.upd (e2.upd fun _ => False) fun x => x).upd u3 (by omega)
  have r3 : RdS h3 1 ⟨some ⟨h1.size, 0, none⟩, 9, 9⟩ (cB nine) := (Own.full b3 (sz := 1) (n := 9) (by rfl) (by decide)).rd
  have E3 : Ext h.size h h3 := (e1.trans (e2.mono (by omega))).trans (u3.ext1 (by omega) (by omega))
  refine crc_Sum_ok (.inl t3) r3 (fun _ e => by simp [Sl.blk] at e; omega) (by decide) fun h4 t4 u4 z4 => ?_
  have E4 : Ext h.size h h4 := E3.trans (u4.ext1 (Nat.le_refl _) (by omega))
  refine crc_Sum_ok (l := []) (.inr t4) (RdS.nil _ _ _ _) (fun h0 => absurd rfl h0) (by decide) fun h5 t5 u5 z5 => ?_
  have E5 : Ext h.size h h5 := E4.trans (u5.ext1 (Nat.le_refl _) (by omega))
  rw [crcOf_nine]
  refine brY rfl (brY rfl (crc_Made_made t5 (brY rfl ?_)))
  refine crc_Of_ok (l := []) (RdS.nil _ _ _ _) (by decide) fun h6 e6 => brY (by rw [crcOf_nil]; rfl) ?_
  have E6 : Ext h.size h h6 := E5.trans (e6.mono E5.1)
  refine crc_Bytes_ok (sum := 3808858755) (by decide) fun r7 h7 o7 f7 e7 => ?_
  have E7 : Ext h.size h h7 := E6.trans (e7.mono E6.1)
  have n7 := rd_nB o7.rd
  refine brY (by rw [n7]; rfl) ?_
  refine alloc (cs := cB nine) fun h8 b8 e8 z8 => frz BT b8 fun h9 b9 u9 z9 => ?_
  have E8 : Ext h.size h h8 := E7.trans (e8.mono E7.1)
  have E9 : Ext h.size h h9 := E8.trans (u9.ext1 E7.1 E8.1)
  have r9 : RdS h9 1 ⟨some ⟨h7.size, 0, none⟩, 9, 9⟩ (cB nine) := (Own.full b9 (sz := 1) (n := 9) (by rfl) (by decide)).rd
  refine crc_Bytes_ok (sum := 3808858755) (by decide) fun r10 h10 o10 f10 e10 => ?_
  have E10 : Ext h.size h h10 := E9.trans (e10.mono E9.1)
  refine crc_Check_ok (r9.ext' e10) o10.rd (by decide) fun h11 e11 => brY (by rw [crcOf_nine]; simp) ?_
  have E11 : Ext h.size h h11 := E10.trans (e11.mono E10.1)
  refine crc_Check_ok (x := []) (y := []) (RdS.nil _ _ _ _) (RdS.nil _ _ _ _) (by decide) fun h12 e12 => brY (by rw [crcOf_nil]; simp [le4]) ?_
  have E12 : Ext h.size h h12 := E11.trans (e12.mono E11.1)
  exact crc_Sum_nil (brY rfl (crc_Made_nil (hR h12 E12)))
/-! ## CrcBytes -/
theorem cB_set (l : List UInt8) (k : Nat) (v : UInt8) : (cB l).set k (.int .u8 (v.toNat : Nat)) = cB (l.set k v) := by simp [cB, List.map_set]
theorem law02_CrcBytes_ok {sum : Int} {b : Sl} {h : Heap} {l : List UInt8} (w0 : 0 ≤ sum ∧ sum ≤ 4294967295) (w1 : Arg h 1 b (cB l) ∧ b.below h.size ∧ b.c ≤ 140737488351232) : C_law02_CrcBytes sum b h fun r h' => r = true ∧ Ext h.size h h' := by
  refine A_law02_CrcBytes ?_
  unfold S_law02_CrcBytes
  obtain ⟨ha, hb, _⟩ := w1
  have hn := rd_nB ha.rd
  obtain ⟨sum, rfl⟩ : ∃ n : Nat, sum = n := ⟨sum.toNat, by omega⟩
  refine law02_fixed_ok fun h0 e0 => brN rfl (brD (fun _ => ⟨rfl, e0⟩) fun hc => ?_)
  refine crc_Bytes_ok (by omega) fun r1 h1 o1 f1 e1 => toS BT o1.rd ?_
  have E1 : Ext h.size h h1 := e0.trans (e1.mono e0.1)
  refine ref02_Bytes_ok (by omega) fun r2 h2 o2 f2 e2 => ⟨toS BT (o1.rd.ext' e2) rfl, toS BT o2.rd (brY (by simp) ?_)⟩
  have E2 : Ext h.size h h2 := E1.trans (e2.mono E1.1)
  refine ref02_Bytes_ok (by omega) fun r3 h3 o3 f3 e3 => ?_
  have E3 : Ext h.size h h3 := E2.trans (e3.mono E2.1)
  refine crc_Check_ok (ha.rd.ext E3 hb) o3.rd (by omega) fun h4 e4 => ?_
  have E4 : Ext h.size h h4 := E3.trans (e4.mono E3.1)
  refine ref02_Of_ok (ha.rd.ext E4 hb) (by omega) ⟨?_, E4⟩
  rw [beq_iff_eq]
  by_cases e : crcOf l = sum
  · rw [e]; simp
  · rw [decide_eq_false fun e2 => e (le4_inj (crcOf_lt l) (by omega) e2)]
    symm
    rw [beq_eq_false_iff_ne]
    omega
/-! ## CrcTurned -/
theorem turn_ne {l : List UInt8} {k : Nat} (hk : k < l.length) {v : UInt8} (hv : v ≠ l[k]) : crcOf (l.set k v) ≠ crcOf l := by
  intro e
  have h1 : l = l.take k ++ l[k] :: l.drop (k + 1) := by rw [← List.drop_eq_getElem_cons hk, List.take_append_drop]
  have h2 : l.set k v = l.take k ++ v :: l.drop (k + 1) := by rw [List.set_eq_take_append_cons_drop, if_pos hk]
  rw [h2] at e
  conv at e => rhs; rw [h1]
  exact hv (crcOf_turn _ _ _ _ e)
theorem xorB {x y : Nat} (hx : x < 256) (hy : y < 256) : bitV .xor .u8 (x : Int) (y : Int) = ((UInt8.ofNat (x ^^^ y)).toNat : Nat) := by
  have := Nat.xor_lt_two_pow (n := 8) hx hy
  rw [xor_u8' hx hy, UInt8.toNat_ofNat', Nat.mod_eq_of_lt this]
theorem xorB_ne {x y : UInt8} (hy : y.toNat ≠ 0) : UInt8.ofNat (x.toNat ^^^ y.toNat) ≠ x := by
  intro e
  have := congrArg UInt8.toNat e
  have h8 := Nat.xor_lt_two_pow (n := 8) x.toNat_lt y.toNat_lt
  simp only [UInt8.toNat_ofNat'] at this
  rw [Nat.mod_eq_of_lt h8] at this
  have h2 : y.toNat = 0 := by
    have h3 : x.toNat ^^^ y.toNat = x.toNat ^^^ 0 := by rw [Nat.xor_zero]; exact this
    exact xor_inj' h3
  exact hy h2
theorem law02_CrcTurned_ok {b : Sl} {at_ by_ : Int} {h : Heap} {l : List UInt8} (w0 : Arg h 1 b (cB l) ∧ b.below h.size ∧ b.c ≤ 140737488351232) (w1 : -9223372036854775808 ≤ at_ ∧ at_ ≤ 9223372036854775807) (w2 : 0 ≤ by_ ∧ by_ ≤ 255) :
    C_law02_CrcTurned b at_ by_ h fun r h' => r = true ∧ Ext h.size h h' := by
  refine A_law02_CrcTurned ?_
  unfold S_law02_CrcTurned
  obtain ⟨ha, hb, _⟩ := w0
  have hn := rd_nB ha.rd
  obtain ⟨y, rfl⟩ : ∃ n : UInt8, by_ = n.toNat := ⟨UInt8.ofNat by_.toNat, by simp; omega⟩
  refine law02_fixed_ok fun h0 e0 => brN rfl (brD (fun _ => ⟨rfl, e0⟩) fun hc => br beq_iff_eq (fun _ => ⟨rfl, e0⟩) fun hc1 => br beq_iff_eq (fun _ => ⟨rfl, e0⟩) fun hc2 => ?_)
  refine alloc (cs := cB []) fun h1 b1 e1 z1 => ?_
  have E1 : Ext h.size h h1 := e0.trans (e1.mono e0.1)
  have o1 : Own h1 1 ⟨some ⟨h0.size, 0, none⟩, 0, 0⟩ (cB []) := Own.full b1 (sz := 1) (n := 0) (by rfl) (by decide)
  refine app TB5 o1 (ha.rd.ext E1 hb) cB_one (by show (0 + b.n) * 1 ≤ _; omega) (by show 0 + b.n ≤ _; omega) fun s2 h2 o2 n2 u2 b2 => ?_
  rw [← cB_append, List.nil_append] at o2
  have hs2 : s2.n = l.length := by rw [n2]; show 0 + b.n = _; omega
  have f2 : s2.from_ h0.size := by
    rcases b2 with e | e
    · intro g hg; rw [e] at hg; simp [Sl.blk] at hg; omega
    · intro g hg; have := e g hg; omega
  have E2 : Ext h.size h h2 := E1.trans (u2.ext E1.1 fun g hg e => by simp [Sl.blk] at e; have := e0.1; omega)
  rw [wu64 (by omega) (by omega)]
  refine nz (by omega) (let_ ?_)
  rw [rem_nonneg (by rw [wrU64]; omega)]
  have m0 : 0 ≤ IntKind.u64.wrap at_ % (b.n : Int) := Int.emod_nonneg _ (by omega)
  have m1 : IntKind.u64.wrap at_ % (b.n : Int) < (b.n : Int) := Int.emod_lt_of_pos _ (by omega)
  rw [w64 (by omega) (by omega)]
  generalize IntKind.u64.wrap at_ % (b.n : Int) = k at *
  obtain ⟨k, rfl⟩ : ∃ n : Nat, k = n := ⟨k.toNat, by omega⟩
  have hk : k < l.length := by omega
  refine ixcB o2.rd k rfl hk ?_
  rw [xorB l[k].toNat_lt y.toNat_lt]
  refine setO0 o2 k rfl (by omega) (by decide) fun h3 o3 u3 z3 => ?_
  rw [Nat.mul_one, cB_set] at o3
  have hv := xorB_ne (x := l[k]) (y := y) (by omega)
  have hne := turn_ne hk hv
  generalize hl' : l.set k (UInt8.ofNat (l[k].toNat ^^^ y.toNat)) = l' at *
  have hl'n : l'.length = l.length := by rw [← hl', List.length_set]
  have E3 : Ext h.size h h3 := E2.trans (u3.ext E2.1 fun g hg e => by have := f2 g e; have := e0.1; omega)
  refine crc_Of_ok (ha.rd.ext E3 hb) (by omega) fun h4 e4 => ?_
  have E4 : Ext h.size h h4 := E3.trans (e4.mono E3.1)
  refine crc_Bytes_ok (crcOf_lt l) fun r5 h5 o5 f5 e5 => ?_
  have E5 : Ext h.size h h5 := E4.trans (e5.mono E4.1)
  have s5 := (o3.rd.ext' e4).ext' e5
  refine crc_Of_ok s5 (by omega) fun h6 e6 => ?_
  have E6 : Ext h.size h h6 := E5.trans (e6.mono E5.1)
  refine crc_Of_ok (ha.rd.ext E6 hb) (by omega) fun h7 e7 => brN (by rw [beq_eq_false_iff_ne]; omega) ?_
  have E7 : Ext h.size h h7 := E6.trans (e7.mono E6.1)
  have o7 := (o5.ext' e6).ext' e7
  refine crc_Check_ok ((s5.ext' e6).ext' e7) o7.rd (by omega) fun h8 e8 => brN (decide_eq_false fun e => hne (le4_inj (crcOf_lt _) (crcOf_lt _) e)) ?_
  have E8 : Ext h.size h h8 := E7.trans (e8.mono E7.1)
  refine crc_Check_ok (ha.rd.ext E8 hb) (o7.ext' e8).rd (by omega) fun h9 e9 => brN (by simp) (nz (by decide) ?_)
  have E9 : Ext h.size h h9 := E8.trans (e9.mono E8.1)
  have o9 := (o7.ext' e8).ext' e9
  have n9 := rd_nB o9.rd
  have hlen4 : (le4 (crcOf l)).length = 4 := rfl
  rw [rem_nonneg (by omega), show ((k : Int) % 4) = ((k % 4 : Nat) : Int) by omega]
  have hj : k % 4 < (le4 (crcOf l)).length := by rw [hlen4]; omega
  refine ixcB o9.rd (k % 4) rfl hj ?_
  rw [xorB (UInt8.toNat_lt _) y.toNat_lt]
  refine setO0 o9 (k % 4) rfl (by omega) (by decide) fun h10 o10 u10 z10 => ?_
  rw [Nat.mul_one, cB_set] at o10
  have E10 : Ext h.size h h10 := E9.trans (u10.ext E9.1 fun g hg e => by have := f5 g e; have := E4.1; omega)
  refine crc_Check_ok (ha.rd.ext E10 hb) o10.rd (by omega) fun h11 e11 => ⟨?_, E10.trans (e11.mono E10.1)⟩
  rw [decide_eq_false]
  · rfl
  · intro e
    have h1 := congrArg (fun x => x[k % 4]?) e
    simp only [List.getElem?_set_self hj, List.getElem?_eq_getElem hj, Option.some.injEq] at h1
    exact xorB_ne (by omega) h1.symm
/-! ## CrcSums -/
structure BA where
  s : Sl
  xs : List UInt8
def BA.cells (a : BA) : List Value := [a.s.v]
def catB (l : List BA) : List UInt8 := l.flatMap BA.xs
theorem catB_append (a b : List BA) : catB (a ++ b) = catB a ++ catB b := List.flatMap_append ..
theorem catB_one (a : BA) : catB [a] = a.xs := by simp [catB]
theorem catB_len_take (l : List BA) (k : Nat) (hk : k < l.length) : (catB (l.take (k + 1))).length = (catB (l.take k)).length + l[k].xs.length := by
  rw [take_snoc l k hk, catB_append, List.length_append, catB_one]
theorem catB_take_le (l : List BA) (k : Nat) : (catB (l.take k)).length ≤ (catB l).length := by
  conv => rhs; rw [← List.take_append_drop k l]
  rw [catB_append, List.length_append]; omega
theorem ixBA {h : Heap} {s : Sl} {l : List BA} {i : Int} {K : Sl → Prop} (hr : RdS h 1 s (l.flatMap BA.cells)) (k : Nat) (hi : i = (k : Int)) (hk : k < l.length) (hK : K l[k].s) :
    Ix s i 1 fun e => Ld .sl h e K := by
  subst hi
  have hlen : l.length = s.n := by have := hr.1; rw [flat_len BA.cells 1 (fun _ => rfl)] at this; omega
  refine ix hr (by omega) (by omega) (by decide) fun g o _ hc => ?_
  have := hc 0 (by decide)
  rw [Int.toNat_natCast, flat_get BA.cells 1 (fun _ => rfl) l k 0 hk (by decide)] at this
  exact ld _ this hK
theorem law02_CrcSums_ok {l : Sl} {h : Heap} {bs : List BA} (w0 : Arg h 1 l (bs.flatMap BA.cells) ∧ l.below h.size ∧ l.c ≤ 140737488351232 ∧ ∀ a ∈ bs, Arg h 1 a.s (cB a.xs) ∧ a.s.c ≤ 140737488351232) : C_law02_CrcSums l h fun r h' => r = true ∧ Ext h.size h h' := by
  refine A_law02_CrcSums ?_
  unfold S_law02_CrcSums
  obtain ⟨ha, hb, hlc, hbs⟩ := w0
  have hn : l.n = bs.length := by have := ha.rd.1; rw [flat_len BA.cells 1 (fun _ => rfl)] at this; omega
  have hmx : l.n ≤ 140737488351232 := Nat.le_trans ha.le hlc
  refine law02_fixed_ok fun h0 e0 => brN rfl ?_
  refine loop2 (s1 := .one (.int .i64)) (s2 := .one (.int .i64)) (fun (n x : Int) h1 => h1 = h0 ∧ ∃ k : Nat, x = k ∧ k ≤ bs.length ∧ n = (catB (bs.take k)).length ∧ n ≤ 600) (fun _ (x : Int) _ => (bs.length - x).toNat)
    ⟨rfl, 0, rfl, by omega, rfl, by simp [catB]⟩ fun _ (n x : Int) h1 hI => ?_
  obtain ⟨rfl, k, rfl, hk, hnk, hn6⟩ := hI
  refine brD (fun hc => ?_) fun hc => ?_
  · have hk2 : k < bs.length := by omega
    refine ixBA (ha.rd.ext e0 hb) k rfl hk2 (let_ ?_)
    obtain ⟨hak, hac⟩ := hbs _ (List.getElem_mem hk2)
    have hxn := rd_nB hak.rd
    have hxm := hak.le
    rw [w64 (by omega) (by omega), w64 (by omega) (by omega)]
    refine brD (fun _ => ⟨rfl, e0⟩) fun hc2 => ?_
    refine ⟨⟨rfl, k + 1, by omega, by omega, ?_, by omega⟩, by omega⟩
    rw [catB_len_take bs k hk2]; omega
  · have hkk : k = bs.length := by omega
    subst hkk
    rw [List.take_length] at hnk
    refine brD (fun _ => ⟨rfl, e0⟩) fun hc2 => ?_
    refine crc_New_ok fun h2 t2 e2 z2 => ?_
    have E2 : Ext h.size h h2 := e0.trans (e2.mono e0.1)
    have hle0 := e0.1
    refine loop3 (s1 := .one .sl) (s2 := .one (.int .u32)) (s3 := .one (.int .i64)) (fun (all : Sl) (s x : Int) h3 => ∃ k : Nat, x = k ∧ k ≤ bs.length ∧ s = crcOf (catB (bs.take k)) ∧ Own h3 1 all (cB (catB (bs.take k))) ∧ all.from_ h2.size ∧ Ext h1.size h1 h3 ∧ h2.size ≤ h3.size ∧ (TNew h3 h1.size ∨ TMade h3 h1.size)) (fun _ _ (x : Int) _ => (bs.length - x).toNat)
      ⟨0, rfl, by omega, by rw [List.take_zero]; exact congrArg Int.ofNat crcOf_nil.symm, Own.nil _ _, (fun g hg => by simp [Sl.blk] at hg), e2, Nat.le_refl _, .inl t2⟩ fun _ (all : Sl) (s x : Int) h3 hI => ?_
    obtain ⟨k, rfl, hk, rfl, ho, hf, he, hs3, ht⟩ := hI
    have hcl := catB_take_le bs k
    have hon := rd_nB ho.rd
    have E3 : Ext h.size h h3 := e0.trans (he.mono e0.1)
    refine brD (fun hc => ?_) fun hc => ?_
    · have hk2 : k < bs.length := by omega
      obtain ⟨hak, hac⟩ := hbs _ (List.getElem_mem hk2)
      have hxn := rd_nB hak.rd
      have hcl2 := catB_take_le bs (k + 1)
      have hcl3 := catB_len_take bs k hk2
      refine ixBA (ha.rd.ext E3 hb) k rfl hk2 ?_
      refine app TB5 ho (hak.ext (Ext.refl _ _) E3).rd cB_one (by omega) (by omega) fun s4 h4 o4 n4 u4 b4 => ?_
      rw [← cB_append] at o4
      have hcat : catB (bs.take k) ++ bs[k].xs = catB (bs.take (k + 1)) := by rw [take_snoc bs k hk2, catB_append, catB_one]
      rw [hcat] at o4
      have hnb : all.blk ≠ some h1.size := fun e => by have := hf _ e; omega
      have t4 : TNew h4 h1.size ∨ TMade h4 h1.size := ht.imp (fun t => t.upd u4 hnb) fun t => t.upd u4 hnb
      have f4 : s4.from_ h2.size := by
        rcases b4 with e | e
        · intro g hg; exact hf g (by rw [← e]; exact hg)
        · intro g hg; have := e g hg; omega
      have hu4 := u4.size
      have E4' : Ext h1.size h1 h4 := he.trans (u4.ext he.1 fun g hg e => by have := hf g e; omega)
      have E4 : Ext h.size h h4 := e0.trans (E4'.mono e0.1)
      refine crc_Add_ok t4 (crcOf_lt _) (hak.ext (Ext.refl _ _) E4).rd (fun h0 e => by have := hak.rd.belowB h0 _ e; omega) (by omega) fun h5 t5 u5 z5 => ?_
      rw [crcOf_app, hcat]
      have o5 : Own h5 1 s4 (cB (catB (bs.take (k + 1)))) := o4.upd u5 fun g hg e => by have := f4 g hg; omega
      refine ref02_Of_ok o5.rd (by omega) (brN (by simp) (crc_Made_made t5 (brN rfl ?_)))
      rw [w64 (by omega) (by omega)]
      exact ⟨⟨k + 1, by omega, by omega, rfl, o5, f4, E4'.trans (u5.ext1 (Nat.le_refl _) (by have := E4'.1; omega)), by omega, .inr t5⟩, by omega⟩
    · have hkk : k = bs.length := by omega
      subst hkk
      rw [List.take_length] at ho hon
      rw [List.take_length]
      refine crc_Of_ok ho.rd (by omega) fun h4 e4 => ?_
      have o4 := ho.ext' e4
      have E4 : Ext h.size h h4 := E3.trans (e4.mono E3.1)
      have t4 : TNew h4 h1.size ∨ TMade h4 h1.size := ht.imp (fun t => t.upd (e4.upd fun _ => False) fun x => x) fun t => t.ext e4
      refine ref02_Of_ok o4.rd (by omega) (brY (by simp) ?_)
      refine crc_Sum_ok t4 o4.rd (fun _ e => by have := hf _ e; omega) (by omega) fun h5 t5 u5 z5 => brY (by simp) ?_
      have E5 : Ext h.size h h5 := E4.trans (u5.ext1 e0.1 E4.1)
      have o5 : Own h5 1 all (cB (catB bs)) := o4.upd u5 fun g hg e => by have := hf g hg; omega
      refine crc_Bytes_ok (crcOf_lt _) fun r6 h6 o6 f6 e6 => toS BT o6.rd ?_
      have E6 : Ext h.size h h6 := E5.trans (e6.mono E5.1)
      refine ref02_Bytes_ok (crcOf_lt _) fun r7 h7 o7 f7 e7 => ⟨toS BT (o6.rd.ext' e7) rfl, toS BT o7.rd (brY (by simp) ?_)⟩
      have E7 : Ext h.size h h7 := E6.trans (e7.mono E6.1)
      refine ref02_Bytes_ok (crcOf_lt _) fun r8 h8 o8 f8 e8 => ?_
      have E8 : Ext h.size h h8 := E7.trans (e8.mono E7.1)
      refine crc_Check_ok (((o5.ext' e6).ext' e7).ext' e8).rd o8.rd (by omega) fun h9 e9 => ⟨by simp, E8.trans (e9.mono E8.1)⟩
section
open Go.ChangeShapes Go.WideShapes
variable {H : Type} {enc : TypeId × Value → H} {w : World} {b0 : Nat} {v : Value} {d : DataW H} {ps : List MemPlace}
set_option maxRecDepth 100000 in
theorem args_u8s (hval : Value.okWide Try.prog w .any b0 23 v) (hd : DataW.Trod enc Try.prog w 0 (fun _ => true) true 23 v d ps) (hf : Fits Try.prog 23 d) :
    ∃ (s : Sl) (xs : List UInt8), v = s.v ∧ Arg w.heap 1 s (cB xs) ∧ s.below w.heap.size ∧ s.c ≤ 140737488351232 :=
  args_bytes Try.underlying23 Try.underlying5 (by kernel_rfl) (of_decide_eq_true (by kernel_rfl)) hval hd hf
set_option maxRecDepth 100000 in
theorem args_bss (hval : Value.okWide Try.prog w .any b0 81 v) (hd : DataW.Trod enc Try.prog w 0 (fun _ => true) true 81 v d ps) (hf : Fits Try.prog 81 d) :
    ∃ (s : Sl) (l : List BA), v = s.v ∧ Arg w.heap 1 s (l.flatMap BA.cells) ∧ s.below w.heap.size ∧ s.c ≤ 140737488351232 ∧ ∀ a ∈ l, Arg w.heap 1 a.s (cB a.xs) ∧ a.s.c ≤ 140737488351232 := by
  have he : ElS enc Try.prog w 23 fun cs => ∃ a : BA, cs = a.cells ∧ Arg w.heap 1 a.s (cB a.xs) ∧ a.s.c ≤ 140737488351232 :=
    els_map (els_bytes Try.underlying23 Try.underlying5 (by kernel_rfl) (of_decide_eq_true (by kernel_rfl))) fun cs ⟨s, xs, h1, h2, h3⟩ => ⟨⟨s, xs⟩, h1, h2, h3⟩
  obtain ⟨s, css, h1, _, h3, h4, h5, h8⟩ := args_sl (sz := 1) Try.underlying81 (by kernel_rfl) (by decide) (of_decide_eq_true (by kernel_rfl)) he hval hd hf
  obtain ⟨acts, h6, h7, _⟩ := cells_of BA.cells _ fun c hc => (h3 c hc).2
  rw [h6] at h4
  exact ⟨s, acts, h1, h4, h5, h8, h7⟩
end
end Go.Proofs.Ytfafikomhbedbaa
