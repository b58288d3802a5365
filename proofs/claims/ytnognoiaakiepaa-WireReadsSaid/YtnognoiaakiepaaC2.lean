/-
  Layer 2 (crc): contracts of the program's calls, and of the document's.
-/
import Derived.Test.YtnognoiaakiepaaO
import Derived.Test.YtnognoiaakiepaaC1
import Derived.Test.YtnognoiaakiepaaSF
import Derived.Test.YtnognoiaakiepaaRf
namespace Go.Proofs.Ytnognoiaakiepaa
open Go

/-! ## The table -/
def tabC (done lock made : Int) (l : List Nat) : List Value := .int .u32 done :: .int .i32 lock :: .int .u32 0 :: .int .i64 made :: l.map fun n : Nat => .int .u32 (n : Int)
def tab256 : List Nat := (List.range 256).map crcByte
theorem tabC_length (a b c : Int) (l : List Nat) : (tabC a b c l).length = l.length + 4 := by simp [tabC]
/-- A table: not yet made; made. -/
def TNew (h : Heap) (b : Nat) : Prop := ∃ t, Blk h b t (tabC 0 0 0 (List.replicate 256 0))
def TMade (h : Heap) (b : Nat) : Prop := ∃ t, Blk h b t (tabC 1 0 1 tab256)
theorem TNew.upd {F : Nat → Prop} {h h' : Heap} {b : Nat} (ht : TNew h b) (hu : Upd F h h') (hn : ¬ F b) : TNew h' b := ht.imp fun _ x => x.upd hu hn
theorem TMade.upd {F : Nat → Prop} {h h' : Heap} {b : Nat} (ht : TMade h b) (hu : Upd F h h') (hn : ¬ F b) : TMade h' b := ht.imp fun _ x => x.upd hu hn
theorem TMade.ext {h h' : Heap} {b : Nat} (ht : TMade h b) (hu : Ext h.size h h') : TMade h' b := ht.upd (hu.upd fun _ => False) fun x => x
theorem TMade.lt {h : Heap} {b : Nat} (ht : TMade h b) : b < h.size := by obtain ⟨_, x⟩ := ht; exact x.lt
set_option maxRecDepth 100000 in
theorem zc_table : zc Try.prog 196 = (tabC 0 0 0 (List.replicate 256 0)).toArray := by
  have e : (zc Try.prog 196).toList = tabC 0 0 0 (List.replicate 256 0) := by kernel_rfl
  rw [← e]
theorem crc_New_ok {h : Heap} {R : Option Addr → Heap → Prop} (hR : ∀ h', TNew h' h.size → Ext h.size h h' → h'.size = h.size + 1 → R (some ⟨h.size, 0, none⟩) h') : C_crc_New h R := by
  refine A_crc_New ?_
  unfold S_crc_New
  rw [zc_table]
  exact alloc fun h' b e z => hR h' ⟨_, b⟩ e z

theorem shr1_u32 {m : Nat} : shiftV .shr .u32 (m : Int) 1 = ((m / 2 : Nat) : Int) := by
  have := shr_eq .u32 (m : Int) 1 (by decide)
  rw [show ((1 : Nat) : Int) = 1 from rfl] at this
  rw [this]; omega
theorem shr8_u32 {m : Nat} : shiftV .shr .u32 (m : Int) 8 = ((m / 256 : Nat) : Int) := by
  have := shr_eq .u32 (m : Int) 8 (by decide)
  rw [show ((8 : Nat) : Int) = 8 from rfl] at this
  rw [this]; omega
theorem crcP_cast : (2197175160 : Int) = ((crcP : Nat) : Int) := rfl
theorem xor_u32' {a b : Nat} (ha : a < 4294967296) (hb : b < 4294967296) : bitV .xor .u32 (a : Int) (b : Int) = ((a ^^^ b : Nat) : Int) := xor_u32 ha hb
theorem xor_u8' {a b : Nat} (ha : a < 256) (hb : b < 256) : bitV .xor .u8 (a : Int) (b : Int) = ((a ^^^ b : Nat) : Int) := xor_u8 ha hb
theorem xor_lt32 {a b : Nat} (ha : a < 4294967296) (hb : b < 4294967296) : a ^^^ b < 4294967296 := Nat.xor_lt_two_pow (n := 32) ha hb
theorem and1_u32 {a : Nat} (ha : a < 4294967296) : bitV .and .u32 (a : Int) 1 = ((a % 2 : Nat) : Int) := by
  have := and_u32 (a := a) (b := 1) ha (by decide)
  rw [show ((1 : Nat) : Int) = 1 from rfl] at this
  rw [this, Nat.and_one_is_mod]
theorem set_tab (l : List Nat) (a b c : Int) (i v : Nat) : (tabC a b c l).set (i + 4) (.int .u32 (v : Int)) = tabC a b c (l.set i v) := by
  simp [tabC, List.map_set]
/-- The numbers that are made so far. -/
def partTab (k : Nat) : List Nat := (List.range k).map crcByte ++ List.replicate (256 - k) 0
theorem partTab_set {k : Nat} (hk : k < 256) : (partTab k).set k (crcByte k) = partTab (k + 1) := by
  unfold partTab
  rw [List.set_append_right _ _ (by simp), List.length_map, List.length_range, Nat.sub_self, show 256 - k = (256 - (k + 1)) + 1 by omega, List.replicate_succ, List.set_cons_zero, List.range_succ]
  simp
theorem partTab_length {k : Nat} (hk : k ≤ 256) : (partTab k).length = 256 := by simp [partTab]; omega
set_option maxRecDepth 100000 in
theorem crc_fill_ok {h : Heap} {b : Nat} {R : Heap → Prop} {t : TypeId} (hb : Blk h b t (tabC 0 1 0 (List.replicate 256 0)))
    (hR : ∀ h', Blk h' b t (tabC 0 1 1 tab256) → Upd (· = b) h h' → h'.size = h.size → R h') : C_crc_Table_fill (some ⟨b, 0, none⟩) h R := by
  refine A_crc_Table_fill ?_
  unfold S_crc_Table_fill
  refine nn (ldF hb 0 rfl (nn (stF hb (by simp [tabC]) fun h1 b1 u1 z1 => ?_)))
  have b1 : Blk h1 b t (tabC 0 1 1 (partTab 0)) := b1
  refine loop1 (s1 := .one (.int .i64)) (fun (x : Int) h2 => ∃ k : Nat, x = k ∧ k ≤ 256 ∧ Blk h2 b t (tabC 0 1 1 (partTab k)) ∧ Upd (· = b) h h2 ∧ h2.size = h.size) (fun (x : Int) _ => (256 - x).toNat)
    ⟨0, rfl, by omega, b1, u1, z1⟩ fun _ (x : Int) h2 hI => ?_
  obtain ⟨k, rfl, hk, b2, u2, z2⟩ := hI
  refine brD (fun hc => let_ ?_) fun hc => ?_
  · have hk2 : k < 256 := by omega
    rw [wu32 (by omega) (by omega)]
    refine loop2 (s1 := .one (.int .u32)) (s2 := .one (.int .i64)) (fun (r : Int) (y : Int) h3 => h3 = h2 ∧ ∃ j m : Nat, y = j ∧ j ≤ 8 ∧ r = m ∧ m < 4294967296 ∧ crcN (8 - j) m = crcByte k) (fun _ (y : Int) _ => (8 - y).toNat)
      ⟨rfl, 0, k, rfl, by omega, rfl, by omega, rfl⟩ fun _ (r : Int) (y : Int) h3 hI => ?_
    obtain ⟨rfl, j, m, rfl, hj, rfl, hm, hcr⟩ := hI
    refine brD (fun hc2 => let_ (nneg (by decide) (let_ ?_))) fun hc2 => ?_
    · rw [and1_u32 hm, shr1_u32, w64 (by omega) (by omega)]
      have e8 : 8 - j = (8 - (j + 1)) + 1 := by omega
      rw [e8, crcN] at hcr
      refine br beq_iff_eq (fun ho => let_ ?_) fun ho => ?_
      · have ho' : m % 2 = 1 := by omega
        have e : crcBit m = (m / 2) ^^^ crcP := by rw [crcBit, if_pos ho']
        rw [crcP_cast, xor_u32' (by omega) (by decide), ← e]
        exact ⟨⟨rfl, j + 1, crcBit m, by omega, by omega, rfl, crcBit_lt hm, hcr⟩, by omega⟩
      · have e : crcBit m = m / 2 := by rw [crcBit, if_neg (by omega)]
        rw [← e]
        exact ⟨⟨rfl, j + 1, crcBit m, by omega, by omega, rfl, crcBit_lt hm, hcr⟩, by omega⟩
    · have hj8 : j = 8 := by omega
      subst hj8
      have hm' : m = crcByte k := hcr
      refine nn ⟨by omega, by omega, ?_⟩
      rw [add0, add0, Nat.zero_add, Int.toNat_natCast, Nat.mul_one, Nat.add_comm 4 k]
      refine stB b2 (by rw [tabC_length, partTab_length hk]; omega) fun h4 b4 u4 z4 => ?_
      rw [set_tab, hm', partTab_set hk2] at b4
      rw [w64 (by omega) (by omega)]
      exact ⟨⟨k + 1, by omega, by omega, b4, u2.trans u4 (fun _ _ x => x) (fun _ _ x => x), by omega⟩, by omega⟩
  · have : k = 256 := by omega
    subst this
    have e : partTab 256 = tab256 := by simp [partTab, tab256]
    rw [e] at b2
    exact hR h2 b2 u2 z2
/-! ## Once -/
theorem once_Load_ok {h : Heap} {b : Nat} {n : Int} {R : Bool → Heap → Prop} (hc : cellH h ⟨b, 0, none⟩ = some (.int .u32 n)) (hR : R (n != 0) h) : C_sync_atomic_Bool_Load (some ⟨b, 0, none⟩) h R := by
  refine A_sync_atomic_Bool_Load ?_
  unfold S_sync_atomic_Bool_Load
  refine nn fun w hw => ⟨_, w, run_call_load (P := Try.prog) Try.func128 (by kernel_rfl) (by kernel_rfl) (by kernel_rfl) .u32 (by kernel_rfl) (x := n) (by rw [cell_eq, hw]; exact hc), Env.refl w, (n, ()), rfl, ?_⟩
  rw [hw]; exact hR
theorem once_Do_done {h : Heap} {b : Nat} {fv : Value} {R : Heap → Prop} (ht : TMade h b) (hR : R h) : C_sync_Once_Do (some ⟨b, 0, none⟩) fv h R := by
  refine A_sync_Once_Do ?_
  unfold S_sync_Once_Do
  obtain ⟨t, hb⟩ := ht
  exact nn (once_Load_ok (n := 1) (hb.cell 0) (brN rfl hR))
theorem once_Do_new {h : Heap} {b : Nat} {R : Heap → Prop} (ht : TNew h b) (hR : ∀ h', TMade h' b → Upd (· = b) h h' → h'.size = h.size → R h') :
    C_sync_Once_Do (some ⟨b, 0, none⟩) (.func (.func 125) #[.pointer (some ⟨b, 0, none⟩)] #[]) h R := by
  refine A_sync_Once_Do ?_
  unfold S_sync_Once_Do
  obtain ⟨t, hb⟩ := ht
  refine nn (once_Load_ok (n := 0) (hb.cell 0) (brY rfl ?_))
  intro w hw
  have b1 : Blk (setH h ⟨b, 1, none⟩ (.int .i32 1)) b t (tabC 0 1 0 (List.replicate 256 0)) := hb.set 1 (.int .i32 1)
  have hfill := crc_fill_ok (R := fun h' => Blk h' b t (tabC 0 1 1 tab256) ∧ Upd (· = b) h h' ∧ h'.size = h.size) b1 fun h' b2 u2 z2 =>
    ⟨b2, (upd_set h ⟨b, 1, none⟩ _).trans u2 (fun _ _ x => x) (fun _ _ x => x), by rw [z2, setH_size]⟩
  have hcall : Calls Try.prog 125 #[.pointer (some ⟨b, 0, none⟩)] (w.setCell ⟨b, 0 + 1, none⟩ (.int .i32 1)) fun e w' => e = .returned (.tuple #[]) ∧ Env (w.setCell ⟨b, 0 + 1, none⟩ (.int .i32 1)) w' ∧
      (Blk w'.heap b t (tabC 0 1 1 tab256) ∧ Upd (· = b) h w'.heap ∧ w'.heap.size = h.size) :=
    (hfill (w.setCell ⟨b, 1, none⟩ (.int .i32 1)) (by rw [set_eq, hw])).mono fun e w' ⟨hE, x, he, hx⟩ => ⟨he, hE, hx⟩
  refine (once_slow b 0 (.pointer (some ⟨b, 0, none⟩)) (Q := fun h' => Blk h' b t (tabC 0 1 1 tab256) ∧ Upd (· = b) h h' ∧ h'.size = h.size) w (by rw [cell_eq, hw]; exact hb.cell 0) (by rw [cell_eq, hw]; exact hb.cell 1) (by rw [frozen_eq, hw]; exact hb.free (by rw [tabC_length]; omega))
    (fun h' ⟨b2, _, _⟩ => ⟨by rw [b2.cell]; rfl, b2.free (by rw [tabC_length]; omega), b2.cell 1, b2.free (by rw [tabC_length]; omega)⟩) hcall).mono fun e w' ⟨he, hE, h2, ⟨b2, u2, z2⟩, hw2⟩ => ⟨hE, (), he, ?_⟩
  show R w'.heap
  rw [hw2]
  have b3 : Blk (setH h2 ⟨b, 0, none⟩ (.int .u32 1)) b t (tabC 1 1 1 tab256) := b2.set 0 (.int .u32 1)
  have b4 : Blk (setH (setH h2 ⟨b, 0, none⟩ (.int .u32 1)) ⟨b, 1, none⟩ (.int .i32 0)) b t (tabC 1 0 1 tab256) := b3.set 1 (.int .i32 0)
  exact hR _ ⟨t, b4⟩ ((u2.trans (upd_set h2 ⟨b, 0, none⟩ _) (fun _ _ x => x) (fun _ _ x => x)).trans (upd_set _ ⟨b, 1, none⟩ _) (fun _ _ x => x) (fun _ _ x => x)) (by rw [setH_size, setH_size]; exact z2)
/-! ## Add, Sum, Of -/
theorem ixcB {h : Heap} {s : Sl} {l : List UInt8} {i : Int} {K : Int → Prop} (hr : RdS h 1 s (cB l)) (k : Nat) (hi : i = (k : Int)) (hk : k < l.length) (hK : K (l[k].toNat : Nat)) :
    Ix s i 1 fun e => Ld (.int .u8) h e K := by
  subst hi
  have hlen : l.length = s.n := by have := hr.1; rw [cB_length] at this; omega
  refine ix hr (by omega) (by omega) (by decide) fun g o _ hc => ?_
  have := hc 0 (by decide)
  simp only [Nat.add_zero, Int.toNat_natCast, Nat.mul_one] at this
  exact ld _ (this.trans (by simp [cB, List.getElem?_eq_getElem hk])) hK
theorem rd_nB {h : Heap} {s : Sl} {l : List UInt8} (hr : RdS h 1 s (cB l)) : s.n = l.length := by have := hr.1; rw [cB_length] at this; omega
theorem tab_get {i : Nat} (hi : i < 256) : (tabC 1 0 1 tab256)[i + 4]? = some (.int .u32 ((crcByte i : Nat) : Int)) := by
  have : (tab256)[i]? = some (crcByte i) := by simp [tab256, hi]
  simp only [tabC, List.getElem?_cons_succ, List.getElem?_map, this, Option.map_some]
theorem crc_Add_ok {h : Heap} {b : Nat} {sum : Nat} {s : Sl} {l : List UInt8} {R : Int → Heap → Prop} (ht : TNew h b ∨ TMade h b) (hs : sum < 4294967296) (hr : RdS h 1 s (cB l)) (hsb : l ≠ [] → s.blk ≠ some b) (hl : l.length ≤ 1000000000)
    (hR : ∀ h', TMade h' b → Upd (· = b) h h' → h'.size = h.size → R ((4294967295 - crcReg (4294967295 - sum) l : Nat) : Int) h') : C_crc_Table_Add (some ⟨b, 0, none⟩) (sum : Int) s h R := by
  refine A_crc_Table_Add ?_
  unfold S_crc_Table_Add
  have hn := rd_nB hr
  have rest : ∀ h1, TMade h1 b → Upd (· = b) h h1 → h1.size = h.size → Let (bitV .xor .u32 4294967295 (sum : Int) : Int) fun r =>
      Loop [.one (.int .u32), .one (.int .i64)] (fun _ (r1 : Int) (x22 : Int) h_1 go =>
        (bif decide (x22 < (s.n : Int)) then
          Ix s x22 1 fun e =>
          Ld (.int .u8) h_1 e fun (x : Int) =>
          Nneg 8 (
          Nn (some (⟨b, 0, none⟩ : Addr)) fun p1 =>
          IxA (p1.add 4) 256 (bitV .xor .u8 (IntKind.u8.wrap r1) x) 1 fun e1 =>
          Ld (.int .u32) h_1 e1 fun (x1 : Int) =>
          Let (bitV .xor .u32 (shiftV .shr .u32 r1 8) x1 : Int) fun r2 =>
          go r2 (IntKind.i64.wrap (x22 + 1)) h_1
          )
        else
          R (bitV .xor .u32 4294967295 r1) h_1
        )
        ) (r, 0, ()) h1 := by
    intro h1 m1 u1 z1
    refine let_ ?_
    have ex : bitV .xor .u32 4294967295 (sum : Int) = ((4294967295 - sum : Nat) : Int) := by
      have := xor_u32' (a := 4294967295) (b := sum) (by decide) hs
      rw [xor_all hs] at this
      exact this
    rw [ex]
    refine loop2 (s1 := .one (.int .u32)) (s2 := .one (.int .i64)) (fun (r : Int) (y : Int) h3 => h3 = h1 ∧ ∃ k m : Nat, y = k ∧ k ≤ l.length ∧ r = m ∧ m < 4294967296 ∧ crcReg m (l.drop k) = crcReg (4294967295 - sum) l) (fun _ (y : Int) _ => (l.length - y).toNat)
      ⟨rfl, 0, _, rfl, by omega, rfl, by omega, rfl⟩ fun _ (r : Int) (y : Int) h3 hI => ?_
    obtain ⟨rfl, k, m, rfl, hk, rfl, hm, hcr⟩ := hI
    refine brD (fun hc => ?_) fun hc => ?_
    · have hk2 : k < l.length := by omega
      refine ixcB (hr.upd u1 fun g hg e => hsb (fun e0 => by rw [e0] at hk2; simp at hk2) (by rw [hg, e])) k rfl hk2 (nneg (by decide) (nn ?_))
      have hcb := l[k].toNat_lt
      have hcb' : l[k].toNat < 256 := hcb
      rw [wrU8, show ((m : Int) % 256) = ((m % 256 : Nat) : Int) by omega, xor_u8' (by omega) hcb']
      have hix : (m % 256) ^^^ l[k].toNat < 256 := Nat.xor_lt_two_pow (n := 8) (by omega) hcb
      refine ⟨by omega, by omega, ?_⟩
      rw [add0, add0, Nat.zero_add, Int.toNat_natCast, Nat.mul_one, Nat.add_comm 4]
      obtain ⟨t, hb⟩ := m1
      refine ldB hb ((crcByte ((m % 256) ^^^ l[k].toNat) : Nat) : Int) (tab_get hix) (let_ ?_)
      have h32 : crcByte ((m % 256) ^^^ l[k].toNat) < 4294967296 := crcByte_lt (by omega)
      rw [shr8_u32, xor_u32' (by omega) h32, ← crcByte_table, w64 (by omega) (by omega)]
      have hdr : l.drop k = l[k] :: l.drop (k + 1) := List.drop_eq_getElem_cons hk2
      rw [hdr] at hcr
      exact ⟨⟨rfl, k + 1, _, by omega, by omega, rfl, crcByte_lt (xor_lt32 hm (byte_lt32 _)), hcr⟩, by omega⟩
    · have : k = l.length := by omega
      subst this
      rw [List.drop_length] at hcr
      have hcr : m = crcReg (4294967295 - sum) l := hcr
      have e2 : bitV .xor .u32 4294967295 (m : Int) = ((4294967295 - m : Nat) : Int) := by
        have := xor_u32' (a := 4294967295) (b := m) (by decide) hm
        rw [xor_all hm] at this
        exact this
      rw [e2, hcr]
      exact hR _ m1 u1 z1
  refine brF (nn ?_)
  rcases ht with ht | ht
  · exact once_Do_new ht rest
  · exact once_Do_done ht (rest h ht (Upd.refl _ _) rfl)
theorem crc_Sum_ok {h : Heap} {b : Nat} {s : Sl} {l : List UInt8} {R : Int → Heap → Prop} (ht : TNew h b ∨ TMade h b) (hr : RdS h 1 s (cB l)) (hsb : l ≠ [] → s.blk ≠ some b) (hl : l.length ≤ 1000000000)
    (hR : ∀ h', TMade h' b → Upd (· = b) h h' → h'.size = h.size → R (crcOf l : Nat) h') : C_crc_Table_Sum (some ⟨b, 0, none⟩) s h R := by
  refine A_crc_Table_Sum ?_
  unfold S_crc_Table_Sum
  exact crc_Add_ok (sum := 0) ht (by decide) hr hsb hl hR
theorem RdS.below {h : Heap} {sz : Nat} {s : Sl} {xs : List Value} (hr : RdS h sz s xs) (hp : 0 < xs.length) : s.below h.size := fun g hg => by
  obtain ⟨g', o, ha, hx⟩ := hr.2 hp
  rw [Sl.blk, ha] at hg
  injection hg with hg
  rw [← hg]
  exact lt_of_cell (a := ⟨g', o + 0, none⟩) ((hx 0 hp).trans (List.getElem?_eq_getElem hp))
theorem RdS.belowB {h : Heap} {s : Sl} {l : List UInt8} (hr : RdS h 1 s (cB l)) (hp : l ≠ []) : s.below h.size := hr.below (by rw [cB_length]; exact List.length_pos_iff.2 hp)
theorem crc_Of_ok {h : Heap} {s : Sl} {l : List UInt8} {R : Int → Heap → Prop} (hr : RdS h 1 s (cB l)) (hl : l.length ≤ 1000000000)
    (hR : ∀ h', Ext h.size h h' → R (crcOf l : Nat) h') : C_crc_Of s h R := by
  refine A_crc_Of ?_
  unfold S_crc_Of
  refine crc_New_ok fun h1 t1 e1 z1 => crc_Sum_ok (.inl t1) (hr.ext' e1) (fun h0 e => by have := hr.belowB h0 _ e; omega) hl fun h2 _ u2 z2 => hR h2 (e1.trans (u2.ext1 (Nat.le_refl _) (by omega)))
theorem crc_Sum_nil {h : Heap} {s : Sl} {R : Int → Heap → Prop} (hR : R 0 h) : C_crc_Table_Sum none s h R := by
  refine A_crc_Table_Sum ?_
  unfold S_crc_Table_Sum
  exact A_crc_Table_Add hR
/-! ## Bytes, Equal, Check -/
theorem TB5 : ElemT Try.prog 22 5 1 1 := .of (by kernel_rfl)
theorem BT : ByteT Try.prog 22 9 5 := .of (by kernel_rfl)
def byteAt (n i : Nat) : UInt8 := UInt8.ofNat (n / 256 ^ i)
theorem crc_Bytes_ok {h : Heap} {sum : Nat} {R : Sl → Heap → Prop} (hs : sum < 4294967296) (hR : ∀ r h', Own h' 1 r (cB (le4 sum)) → r.from_ h.size → Ext h.size h h' → R r h') : C_crc_Bytes (sum : Int) h R := by
  refine A_crc_Bytes ?_
  unfold S_crc_Bytes
  refine loop2 (s1 := .one .sl) (s2 := .one (.int .i64)) (fun (out : Sl) (x : Int) h1 => ∃ k : Nat, x = k ∧ k ≤ 4 ∧ Own h1 1 out (cB ((le4 sum).take k)) ∧ out.from_ h.size ∧ Ext h.size h h1) (fun _ (x : Int) _ => (4 - x).toNat)
    ⟨0, rfl, by omega, Own.nil _ _, (fun g hg => by simp [Sl.blk] at hg), Ext.refl _ _⟩ fun _ (out : Sl) (x : Int) h1 hI => ?_
  obtain ⟨k, rfl, hk, ho, hf, he⟩ := hI
  have hn := rd_nB ho.rd
  have hlen : (le4 sum).length = 4 := rfl
  rw [List.length_take, hlen] at hn
  refine brD (fun hc => ?_) fun hc => ?_
  · rw [w64 (n := 8 * (k : Int)) (by omega) (by omega), wu64 (n := 8 * (k : Int)) (by omega) (by omega)]
    refine nneg (by omega) ?_
    have hb : IntKind.u8.wrap (shiftV .shr .u32 (sum : Int) (8 * (k : Int))) = (((le4 sum)[k]'(by omega)).toNat : Nat) := by
      have := shr_eq .u32 (sum : Int) (8 * k) (by show 8 * k ≤ 32; omega)
      rw [show ((8 * k : Nat) : Int) = 8 * (k : Int) by omega] at this
      rw [this, wrU8]
      have hk4 : k = 0 ∨ k = 1 ∨ k = 2 ∨ k = 3 := by omega
      rcases hk4 with rfl | rfl | rfl | rfl <;> simp [le4] <;> omega
    rw [hb]
    refine alloc (cs := cB [(le4 sum)[k]'(by omega)]) fun h2 b2 e2 z2 => ?_
    have r2 : RdS h2 1 ⟨some ⟨h1.size, 0, none⟩, 1, 1⟩ (cB [(le4 sum)[k]'(by omega)]) := (Own.full b2 (sz := 1) (n := 1) (by rfl) (by decide)).rd
    refine app TB5 (ho.ext' e2) r2 cB_one (by show (out.n + 1) * 1 ≤ _; omega) (by show out.n + 1 ≤ _; omega) fun s3 h3 o3 n3 u3 b3 => ?_
    rw [← cB_append, ← take_snoc] at o3
    rw [w64 (by omega) (by omega)]
    have hsz := he.1
    refine ⟨⟨k + 1, by omega, by omega, o3, ?_, (he.trans (e2.mono hsz)).trans (u3.ext (by have := e2.1; omega) fun g hg e => by have := hf g e; omega)⟩, by omega⟩
    rcases b3 with e | e
    · intro g hg; exact hf g (by rw [← e]; exact hg)
    · intro g hg; have := e g hg; have := e2.1; omega
  · have : k = 4 := by omega
    subst this
    rw [List.take_of_length_le (by rw [hlen]; exact Nat.le_refl _)] at ho
    exact hR out h1 ho hf he
theorem ref02_Bytes_ok {h : Heap} {sum : Nat} {R : Sl → Heap → Prop} (_hs : sum < 4294967296) (hR : ∀ r h', Own h' 1 r (cB (le4 sum)) → r.from_ h.size → Ext h.size h h' → R r h') : C_ref02_Bytes (sum : Int) h R := by
  refine A_ref02_Bytes ?_
  unfold S_ref02_Bytes
  refine nz (by decide) (nz (by decide) (nz (by decide) (nz (by decide) (nz (by decide) (nz (by decide) ?_)))))
  have q : ∀ n : Nat, 0 < n → divV .quo .u32 (sum : Int) (n : Int) = ((sum / n : Nat) : Int) := fun n hn => by
    have h1 : sum / n ≤ sum := Nat.div_le_self _ _
    simp only [divV]
    rw [← Int.ofNat_tdiv, wu32 (Int.natCast_nonneg _) (Int.lt_of_le_of_lt (Int.ofNat_le.2 h1) (by omega))]
  have q1 := q 256 (by decide); have q2 := q 65536 (by decide); have q3 := q 16777216 (by decide)
  rw [show ((256 : Nat) : Int) = 256 from rfl] at q1
  rw [show ((65536 : Nat) : Int) = 65536 from rfl] at q2
  rw [show ((16777216 : Nat) : Int) = 16777216 from rfl] at q3
  rw [q1, q2, q3, rem_nonneg (by omega), rem_nonneg (by omega), rem_nonneg (by omega), wrU8, wrU8, wrU8, wrU8]
  have e0 : (sum : Int) % 256 % 256 = ((UInt8.ofNat sum).toNat : Nat) := by simp
  have e1 : ((sum / 256 : Nat) : Int) % 256 % 256 = ((UInt8.ofNat (sum / 256)).toNat : Nat) := by simp
  have e2 : ((sum / 65536 : Nat) : Int) % 256 % 256 = ((UInt8.ofNat (sum / 65536)).toNat : Nat) := by simp
  have e3 : ((sum / 16777216 : Nat) : Int) % 256 = ((UInt8.ofNat (sum / 16777216)).toNat : Nat) := by simp
  rw [e0, e1, e2, e3]
  exact alloc (cs := cB (le4 sum)) fun h' b e z => hR _ h' (Own.full b (sz := 1) (n := 4) (by rfl) (by decide)) (fun g hg => by simp [Sl.blk] at hg; omega) e
theorem ref02_Of_ok {h : Heap} {s : Sl} {l : List UInt8} {R : Int → Heap → Prop} (hr : RdS h 1 s (cB l)) (hl : l.length ≤ 1000000000) (hR : R (crcOf l : Nat) h) : C_ref02_Of s h R := by
  refine A_ref02_Of ?_
  unfold S_ref02_Of
  have hn := rd_nB hr
  refine loop2 (s1 := .one (.int .u32)) (s2 := .one (.int .i64)) (fun (r : Int) (y : Int) h3 => h3 = h ∧ ∃ k m : Nat, y = k ∧ k ≤ l.length ∧ r = m ∧ m < 4294967296 ∧ crcReg m (l.drop k) = crcReg 4294967295 l) (fun _ (y : Int) _ => (l.length - y).toNat)
    ⟨rfl, 0, 4294967295, rfl, by omega, rfl, by decide, rfl⟩ fun _ (r : Int) (y : Int) h3 hI => ?_
  obtain ⟨rfl, k, m, rfl, hk, rfl, hm, hcr⟩ := hI
  refine brD (fun hc => ?_) fun hc => ?_
  · have hk2 : k < l.length := by omega
    refine ixcB hr k rfl hk2 (let_ ?_)
    have hcb : l[k].toNat < 256 := l[k].toNat_lt
    rw [wu32 (by omega) (by omega), xor_u32' hm (by omega)]
    have hm0 : m ^^^ l[k].toNat < 4294967296 := xor_lt32 hm (by omega)
    have hdr : l.drop k = l[k] :: l.drop (k + 1) := List.drop_eq_getElem_cons hk2
    rw [hdr] at hcr
    refine loop2 (s1 := .one (.int .u32)) (s2 := .one (.int .i64)) (fun (r : Int) (y : Int) h4 => h4 = h3 ∧ ∃ j q : Nat, y = j ∧ j ≤ 8 ∧ r = q ∧ q < 4294967296 ∧ crcN (8 - j) q = crcByte (m ^^^ l[k].toNat)) (fun _ (y : Int) _ => (8 - y).toNat)
      ⟨rfl, 0, _, rfl, by omega, rfl, hm0, rfl⟩ fun _ (r : Int) (y : Int) h4 hI => ?_
    obtain ⟨rfl, j, q, rfl, hj, rfl, hq, hcq⟩ := hI
    refine brD (fun hc2 => nz (by decide) (let_ (nz (by decide) (let_ ?_)))) fun hc2 => ?_
    · have hq2 : divV .quo .u32 (q : Int) 2 = ((q / 2 : Nat) : Int) := by
        simp only [divV]
        rw [show (2 : Int) = ((2 : Nat) : Int) from rfl, ← Int.ofNat_tdiv, wu32 (by omega) (by omega)]
      rw [hq2, rem_nonneg (by omega)]
      have e8 : 8 - j = (8 - (j + 1)) + 1 := by omega
      rw [e8, crcN] at hcq
      refine br beq_iff_eq (fun ho => let_ (let_ ?_)) fun ho => let_ ?_
      · have e : crcBit q = (q / 2) ^^^ crcP := by rw [crcBit, if_pos (by omega)]
        rw [crcP_cast, xor_u32' (by omega) (by decide), ← e, w64 (by omega) (by omega)]
        exact ⟨⟨rfl, j + 1, crcBit q, by omega, by omega, rfl, crcBit_lt hq, hcq⟩, by omega⟩
      · have e : crcBit q = q / 2 := by rw [crcBit, if_neg (by omega)]
        rw [← e, w64 (by omega) (by omega)]
        exact ⟨⟨rfl, j + 1, crcBit q, by omega, by omega, rfl, crcBit_lt hq, hcq⟩, by omega⟩
    · have hj8 : j = 8 := by omega
      subst hj8
      have hq' : q = crcByte (m ^^^ l[k].toNat) := hcq
      rw [w64 (by omega) (by omega)]
      exact ⟨⟨rfl, k + 1, q, by omega, by omega, rfl, hq, by rw [hq']; exact hcr⟩, by omega⟩
  · have : k = l.length := by omega
    subst this
    rw [List.drop_length] at hcr
    have hcr : m = crcReg 4294967295 l := hcr
    rw [wu32 (by omega) (by omega), show (4294967295 - (m : Int)) = ((4294967295 - m : Nat) : Int) by omega, hcr]
    exact hR
theorem bytes_Equal_ok {h : Heap} {a b : Sl} {x y : List UInt8} {R : Bool → Heap → Prop} (ha : RdS h 1 a (cB x)) (hb : RdS h 1 b (cB y)) (hR : R (decide (x = y)) h) : C_bytes_Equal a b h R := by
  refine A_bytes_Equal ?_
  unfold S_bytes_Equal
  refine toS BT ha (toS BT hb ?_)
  rw [strB_toList, strB_toList]
  rwa [show (x == y) = decide (x = y) by by_cases e : x = y <;> simp [e]]
/-- A text appended to bytes. -/
theorem appS {h : Heap} {s : Sl} {xs ys : List UInt8} {ty : TypeId} {K : Sl → Heap → Prop} (ho : Own h 1 s (cB xs)) (hlen : xs.length + ys.length ≤ 140737488355328) (hk : ∀ s' h', Own h' 1 s' (cB (xs ++ ys)) → Grw h s h' s' → K s' h') :
    OpT Try.prog (Builtin.append_ #[22, 9] ty #[.slice s.a s.n s.c, .string (strB ys)]) h [.one .sl] K := by
  have e1 := rd_nB ho.rd
  have hx : SrcH Try.prog 1 9 (.string (strB ys)) (strB ys).size (byteCells (strB ys)) h := SrcH.str BT.str (strB ys)
  have e2 := strB_size ys
  refine opT_app TB5 ho hx (by omega) (by omega) fun s' h' o n u b => hk s' h' ?_ ⟨u, b⟩
  rwa [byteCells_eq, strB_data, ← cB_append] at o
theorem crc_Check_ok {h : Heap} {a b : Sl} {x y : List UInt8} {R : Bool → Heap → Prop} (ha : RdS h 1 a (cB x)) (hb : RdS h 1 b (cB y)) (hl : x.length ≤ 1000000000) (hR : ∀ h', Ext h.size h h' → R (decide (le4 (crcOf x) = y)) h') : C_crc_Check a b h R := by
  refine A_crc_Check ?_
  unfold S_crc_Check
  refine crc_Of_ok ha hl fun h1 e1 => crc_Bytes_ok (crcOf_lt x) fun r h2 o2 f2 e2 => ?_
  have E2 : Ext h.size h h2 := e1.trans (e2.mono e1.1)
  exact bytes_Equal_ok o2.rd (hb.ext' E2) (hR h2 E2)
theorem cB_set (l : List UInt8) (k : Nat) (v : UInt8) : (cB l).set k (.int .u8 (v.toNat : Nat)) = cB (l.set k v) := by simp [cB, List.map_set]
theorem xorB {x y : Nat} (hx : x < 256) (hy : y < 256) : bitV .xor .u8 (x : Int) (y : Int) = ((UInt8.ofNat (x ^^^ y)).toNat : Nat) := by
  have := Nat.xor_lt_two_pow (n := 8) hx hy
  rw [xor_u8' hx hy, UInt8.toNat_ofNat', Nat.mod_eq_of_lt this]
theorem xorB_ne {x y : UInt8} (hy : y.toNat ≠ 0) : UInt8.ofNat (x.toNat ^^^ y.toNat) ≠ x := by
  intro e
  have := congrArg UInt8.toNat e
  have h8 := Nat.xor_lt_two_pow (n := 8) x.toNat_lt y.toNat_lt
  simp only [UInt8.toNat_ofNat'] at this
  rw [Nat.mod_eq_of_lt h8] at this
  have h2 : y.toNat = 0 := by
    have h3 : x.toNat ^^^ y.toNat = x.toNat ^^^ 0 := by rw [Nat.xor_zero]; exact this
    exact xor_inj' h3
  exact hy h2
end Go.Proofs.Ytnognoiaakiepaa
