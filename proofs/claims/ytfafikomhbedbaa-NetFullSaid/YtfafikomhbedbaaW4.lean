/-
  Layer 1 (word): the fixed calls; numbers in order.
-/
import Derived.Test.YtfafikomhbedbaaW3
namespace Go.Proofs.Ytfafikomhbedbaa
open Go

def fixL : List UInt8 := ([] ++ be8 258) ++ txt [104, 105] ++ tru true
theorem fixI : mInt false fixL 0 999 = (false, [0, 2, 104, 105, 1], 258) := by decide +kernel
theorem fixT : mText false [0, 2, 104, 105, 1] 9 = (false, [1], [104, 105]) := by decide +kernel
theorem fixB : mBool false [1] = (false, [], true) := by decide +kernel
theorem fixN : mBool false [2] = (true, [], false) := by decide +kernel
theorem fix_len : fixL.length = 13 := by decide +kernel
theorem fix6 : fixL[6]? = some 1 := by decide +kernel
theorem fix7 : fixL[7]? = some 2 := by decide +kernel

theorem law01_fixed_ok {h : Heap} {R : Bool → Heap → Prop} (hR : ∀ h', Ext h.size h h' → R true h') : C_law01_fixed h R := by
  refine A_law01_fixed ?_
  unfold S_law01_fixed
  refine word_IntP (xs := []) (Own.nil _ _) (by decide) fun s1 h1 o1 g1 => ?_
  refine word_TextP o1 (by decide +kernel) fun s2 h2 o2 g2 => ?_
  refine word_BoolP o2 (by decide +kernel) fun s3 h3 o3 g3 => ?_
  have o3' : Own h3 1 s3 (cB fixL) := o3
  have g := (g1.trans g2).trans g3
  have hfr0 : (⟨none, 0, 0⟩ : Sl).from_ h.size := fun g hg => by cases hg
  have e3 := g.ext hfr0 (Nat.le_refl _)
  have f3 : s3.from_ h.size := g.from_ hfr0 (Nat.le_refl _)
  have hn3 : s3.n = 13 := by have := o3'.1; rw [cB_length, fix_len] at this; omega
  have b3 : ∀ g, s3.blk = some g → g < h3.size := fun g hg => by
    obtain ⟨_, _, _, hh⟩ := o3'
    rcases hh with ⟨ha, _⟩ | ⟨g', o, ha, hlt, _⟩
    · rw [Sl.blk, ha] at hg; cases hg
    · rw [Sl.blk, ha] at hg; injection hg with hg; rw [← hg]; exact hlt
  refine word_Read_ok o3'.rd o3'.2.1 o3'.2.2.1 b3 fun p h4 r4 e4 z4 p4 => ?_
  have hF : ¬ p < h3.size := by omega
  refine word_Int_ok r4 hF fun h5 st5 => ?_
  rw [fixI] at st5 ⊢
  obtain ⟨r5, u5, z5⟩ := st5
  refine word_Text_ok r5 hF fun h6 st6 => ?_
  rw [fixT] at st6 ⊢
  obtain ⟨r6, u6, z6⟩ := st6
  refine word_Bool_ok r6 hF fun h7 st7 => ?_
  rw [fixB] at st7 ⊢
  obtain ⟨r7, u7, z7⟩ := st7
  refine alloc (cs := cB [2]) fun h8 b8 e8 z8 => ?_
  have x8 := Own.full b8 (sz := 1) (n := 1) (by rfl) (by decide)
  refine word_Read_ok (F := fun k => k = h7.size) x8.rd (Nat.le_refl _) (show (1 : Nat) ≤ 9223372036854775807 by decide) (fun g hg => by simp only [Sl.blk, Option.map_some, Option.some.injEq] at hg; exact hg.symm) fun q h9 r9 e9 z9 p9 => ?_
  refine word_Bool_ok r9 (by omega) fun h10 st10 => ?_
  rw [fixN] at st10 ⊢
  obtain ⟨r10, u10, z10⟩ := st10
  -- all that was made lies behind the entry
  have hs3 := e3.1
  have E4 : Ext h.size h h4 := e3.trans (e4.mono hs3)
  have E7 : Ext h.size h h7 := ((E4.trans (u5.ext1 (by omega) (by omega))).trans (u6.ext1 (by omega) (by omega))).trans (u7.ext1 (by omega) (by omega))
  have E9 : Ext h.size h h9 := (E7.trans (e8.mono (by omega))).trans (e9.mono (by omega))
  have E10 : Ext h.size h h10 := E9.trans (u10.ext1 (by omega) (by omega))
  -- what is still as it was
  have E3_10 : Ext h3.size h3 h10 := (((((((Ext.refl _ _).trans e4).trans (u5.ext1 (by omega) (by omega))).trans (u6.ext1 (by omega) (by omega))).trans (u7.ext1 (by omega) (by omega))).trans (e8.mono (by omega))).trans (e9.mono (by omega))).trans (u10.ext1 (by omega) (by omega))
  have rd3 : RdS h10 1 s3 (cB fixL) := o3'.rd.ext' E3_10
  have r7' : RRep (· < h3.size) h10 p false [] := by
    have a1 := r7.upd (e8.upd fun _ => False) (fun x => x) fun _ _ _ x => x
    have a2 := a1.upd (e9.upd fun _ => False) (fun x => x) fun _ _ _ x => x
    exact a2.upd u10 (by have := r7.lt; omega) fun g _ hg => by show ¬ g = q; omega
  refine brY (by rw [hn3]; rfl) (ixB rd3 6 rfl (by rw [fix_len]; decide) ?_)
  have g6 : fixL[6]'(by rw [fix_len]; decide) = 1 := by have := fix6; rw [List.getElem?_eq_getElem (by rw [fix_len]; decide)] at this; injection this
  have g7 : fixL[7]'(by rw [fix_len]; decide) = 2 := by have := fix7; rw [List.getElem?_eq_getElem (by rw [fix_len]; decide)] at this; injection this
  rw [g6]
  refine brY rfl (ixB rd3 7 rfl (by rw [fix_len]; decide) ?_)
  rw [g7]
  refine brY rfl (brY rfl (brY (by rw [strB_toList, show (⟨#[104, 105]⟩ : ByteArray) = strB [104, 105] from rfl, strB_toList]; decide) (brY rfl ?_)))
  refine word_Done_ok r7' (brY rfl (brY rfl ?_))
  refine word_Fail_ok r10 (brY rfl (word_Done_ok r10 (brY rfl ?_)))
  exact word_Fail_nil (brY rfl (word_Left_nil (brY rfl (word_Int_nil (hR _ E10)))))

/-! ## Order -/
theorem be8_inj_u {a b : Int} (h : be8 a = be8 b) : u64 a = u64 b := by
  have := congrArg valBE h
  rwa [valBE_be8, valBE_be8] at this
theorem less_beN : ∀ (k u v : Nat), Op.bytesLess (beN u k) (beN v k) = decide (u % 256 ^ k < v % 256 ^ k)
  | 0, u, v => by simp [beN, Op.bytesLess]; omega
  | k + 1, u, v => by
    have ih := less_beN k u v
    rw [beN_cons, beN_cons]
    unfold Op.bytesLess
    rw [ih]
    have hu : u % 256 ^ (k + 1) = u % 256 ^ k + 256 ^ k * (u / 256 ^ k % 256) := by rw [Nat.pow_succ, Nat.mod_mul]
    have hv : v % 256 ^ (k + 1) = v % 256 ^ k + 256 ^ k * (v / 256 ^ k % 256) := by rw [Nat.pow_succ, Nat.mod_mul]
    have hpos : 0 < 256 ^ k := Nat.pow_pos (by decide)
    have h1 := Nat.mod_lt u hpos
    have h2 := Nat.mod_lt v hpos
    generalize hA : u / 256 ^ k = A at *
    generalize hB : v / 256 ^ k = B at *
    generalize 256 ^ k = m at *
    rw [hu, hv]
    have hlt : (UInt8.ofNat A < UInt8.ofNat B) ↔ A % 256 < B % 256 := by rw [UInt8.lt_iff_toNat_lt, UInt8.toNat_ofNat', UInt8.toNat_ofNat']
    have heq : (UInt8.ofNat A = UInt8.ofNat B) ↔ A % 256 = B % 256 := by rw [← UInt8.toNat_inj, UInt8.toNat_ofNat', UInt8.toNat_ofNat']
    rw [Bool.eq_iff_iff]
    simp only [Bool.or_eq_true, Bool.and_eq_true, decide_eq_true_eq, beq_iff_eq, hlt, heq]
    generalize A % 256 = a at *
    generalize B % 256 = b at *
    constructor
    · rintro (h | ⟨h, h'⟩)
      · have : m * (a + 1) ≤ m * b := Nat.mul_le_mul_left _ h
        rw [Nat.mul_add] at this; omega
      · subst h; omega
    · intro h
      rcases Nat.lt_trichotomy a b with h3 | h3 | h3
      · exact .inl h3
      · subst h3; exact .inr ⟨rfl, by omega⟩
      · have : m * (b + 1) ≤ m * a := Nat.mul_le_mul_left _ h3
        rw [Nat.mul_add] at this; omega
theorem u64_inj {a b : Int} (ha : -9223372036854775808 ≤ a ∧ a ≤ 9223372036854775807) (hb : -9223372036854775808 ≤ b ∧ b ≤ 9223372036854775807) (h : u64 a = u64 b) : a = b := by
  unfold u64 at h; omega
theorem law01_WordOrder_ok {a b : Int} {h : Heap} (ha : -9223372036854775808 ≤ a ∧ a ≤ 9223372036854775807) (hb : -9223372036854775808 ≤ b ∧ b ≤ 9223372036854775807) :
    C_law01_WordOrder a b h fun r h' => r = true ∧ Ext h.size h h' := by
  refine A_law01_WordOrder ?_
  unfold S_law01_WordOrder
  refine law01_fixed_ok fun h0 e0 => brN rfl ?_
  have hfr0 : (⟨none, 0, 0⟩ : Sl).from_ h0.size := fun g hg => by cases hg
  refine word_IntP (xs := []) (Own.nil _ _) (by decide) fun s1 h1 o1 g1 => ?_
  have e1 := g1.ext hfr0 (Nat.le_refl _)
  have f1 := g1.from_ hfr0 (Nat.le_refl _)
  refine toS BT (l := be8 a) o1.rd ?_
  refine word_IntP (xs := []) (Own.nil _ _) (by decide) fun s2 h2 o2 g2 => ?_
  have hfr1 : (⟨none, 0, 0⟩ : Sl).from_ h1.size := fun g hg => by cases hg
  have e2 := g2.ext hfr1 (Nat.le_refl _)
  refine ⟨toS BT (l := be8 a) (o1.rd.ext' e2) rfl, toS BT (l := be8 b) o2.rd ?_⟩
  have hs0 := e0.1
  have E : Ext h.size h h2 := (e0.trans (e1.mono hs0)).trans (e2.mono (Nat.le_trans hs0 e1.1))
  have heq : (be8 a = be8 b) ↔ a = b := ⟨fun x => u64_inj ha hb (be8_inj_u x), fun x => by rw [x]⟩
  refine brN (by rw [strB_size, be8_length]; rfl) (brN ?_ ?_)
  · rw [strB_toList, strB_toList]
    by_cases h3 : a = b
    · subst h3; simp
    · have h4 : ¬ be8 a = be8 b := fun x => h3 (heq.1 x)
      have e3 : (be8 a == be8 b) = false := by simpa using h4
      have e4 : (a == b) = false := by simpa using h3
      rw [e3, e4]; rfl
  · refine brD (fun _ => ⟨rfl, E⟩) fun h3 => brD (fun _ => ⟨rfl, E⟩) fun h4 => ⟨?_, E⟩
    rw [strB_toList, strB_toList]
    unfold be8
    rw [less_beN]
    have e256 : (256 : Nat) ^ 8 = 18446744073709551616 := by decide +kernel
    rw [e256, Nat.mod_eq_of_lt (u64_lt a), Nat.mod_eq_of_lt (u64_lt b)]
    have : (u64 a < u64 b) ↔ a < b := by unfold u64; omega
    simp [this]
end Go.Proofs.Ytfafikomhbedbaa
