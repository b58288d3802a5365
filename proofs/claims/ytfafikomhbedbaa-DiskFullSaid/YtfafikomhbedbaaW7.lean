/-
  Layer 4 (disk): contracts.
-/
import Derived.Test.YtfafikomhbedbaaRd
import Derived.Test.YtfafikomhbedbaaW2
import Derived.Test.YtfafikomhbedbaaSB
namespace Go.Proofs.Ytfafikomhbedbaa
open Go

/-- One byte turned. -/
def flp (l : List UInt8) (i : Nat) (c : UInt8) : List UInt8 := match l[i]? with | some b => l.set i (b ^^^ c) | none => l
theorem flp_in {l : List UInt8} {i : Nat} (hi : i < l.length) (c : UInt8) : flp l i c = l.set i (l[i] ^^^ c) := by unfold flp; rw [List.getElem?_eq_getElem hi]
theorem flp_length (l : List UInt8) (i : Nat) (c : UInt8) : (flp l i c).length = l.length := by unfold flp; split <;> simp
theorem flp_eq {l : List UInt8} {i : Nat} (hi : i < l.length) (c : UInt8) : flp l i c = l.take i ++ [l[i] ^^^ c] ++ l.drop (i + 1) := by
  rw [flp_in hi, List.set_eq_take_append_cons_drop, if_pos hi, List.append_assoc]; rfl
theorem cB_set (l : List UInt8) (i : Nat) (b : UInt8) : (cB l).set i (.int .u8 b.toNat) = cB (l.set i b) := by simp [cB, List.map_set]
theorem xor_byte (b c : UInt8) : bitV .xor .u8 (b.toNat : Int) (c.toNat : Int) = ((b ^^^ c).toNat : Int) := by
  rw [xor_u8 b.toNat_lt c.toNat_lt, UInt8.toNat_xor]

theorem Own.below {h : Heap} {sz : Nat} {s : Sl} {xs : List Value} (ho : Own h sz s xs) : s.below h.size := fun g hg => by
  obtain ⟨_, _, _, hh⟩ := ho
  rcases hh with ⟨ha, _⟩ | ⟨g', o, ha, hlt, _⟩
  · rw [Sl.blk, ha] at hg; cases hg
  · rw [Sl.blk, ha] at hg; injection hg with hg; rw [← hg]; exact hlt

/-- A disk: its struct's block, its bytes, how many of them are synced; all of it lies behind B. -/
def DRep (B : Nat) (h : Heap) (d : Nat) (all : List UInt8) (k : Nat) : Prop :=
  ∃ t s, Blk h d t [.slice s.a s.n s.c, .int .i64 (k : Int)] ∧ Own h 1 s (cB all) ∧ s.blk ≠ some d ∧ s.from_ B ∧ B ≤ d ∧ k ≤ all.length ∧ all.length ≤ 1048576
theorem DRep.keep {B : Nat} {h h' : Heap} {d : Nat} {all : List UInt8} {k : Nat} (hd : DRep B h d all k) (he : Ext h.size h h') : DRep B h' d all k := by
  obtain ⟨t, s, h1, h2, h3, h4, h5, h6, h7⟩ := hd
  exact ⟨t, s, h1.upd (he.upd fun _ => False) (fun x => x), h2.ext' he, h3, h4, h5, h6, h7⟩
theorem DRep.le {B : Nat} {h : Heap} {d : Nat} {all : List UInt8} {k : Nat} (hd : DRep B h d all k) : B ≤ h.size := by
  obtain ⟨t, s, h1, h2, h3, h4, h5, h6, h7⟩ := hd
  have := h1.lt; omega
theorem own_n {h : Heap} {s : Sl} {l : List UInt8} (ho : Own h 1 s (cB l)) : s.n = l.length := by have := ho.1; rw [cB_length] at this; omega
theorem rd_n {h : Heap} {s : Sl} {l : List UInt8} (ho : RdS h 1 s (cB l)) : s.n = l.length := by have := ho.1; rw [cB_length] at this; omega

section
variable {B : Nat} {h : Heap} {d : Nat} {all : List UInt8} {k : Nat}
theorem disk_New_ok {R : Option Addr → Heap → Prop} (hB : B ≤ h.size) (hR : ∀ h' d, DRep B h' d [] 0 → Ext h.size h h' → R (some ⟨d, 0, none⟩) h') : C_disk_New h R := by
  refine A_disk_New ?_
  unfold S_disk_New
  refine alloc (cs := [.slice none 0 0, .int .i64 0]) fun h' b e z => hR h' _ ⟨_, ⟨none, 0, 0⟩, b, Own.nil _ _, (by simp [Sl.blk]), (fun g hg => by simp [Sl.blk] at hg), hB, Nat.le_refl _, (by simp)⟩ e
theorem disk_Write_ok {b : Sl} {xs : List UInt8} {R : Int → Heap → Prop} (hd : DRep B h d all k) (hb : RdS h 1 b (cB xs)) (hx : xs.length ≤ 1000000000000)
    (h1 : 1048576 < all.length + xs.length → R 7 h) (h2 : all.length + xs.length ≤ 1048576 → ∀ h', DRep B h' d (all ++ xs) k → Ext B h h' → R 0 h') : C_disk_Disk_Write (some ⟨d, 0, none⟩) b h R := by
  refine A_disk_Disk_Write ?_
  unfold S_disk_Disk_Write
  have hle := hd.le
  obtain ⟨t, s, hk1, ho, hne, hfr, hBd, hk, hm⟩ := hd
  have hsn := own_n ho
  have hbn := rd_n hb
  refine brF (nn (ldB hk1 s rfl ?_))
  rw [w64 (by omega) (by omega)]
  refine brD (fun hc => h1 (by omega)) fun hc => nn (ldB hk1 s rfl ?_)
  refine app TB ho hb cB_one (by omega) (by omega) fun s2 h2' o2 n2 u2 b2 => ?_
  have hdl := hk1.lt
  have hne2 : s2.blk ≠ some d := by
    rcases b2 with e | e
    · rw [e]; exact hne
    · intro hg; have := e d hg; omega
  have hfr2 : s2.from_ B := by
    rcases b2 with e | e
    · intro g hg; exact hfr g (by rw [← e]; exact hg)
    · intro g hg; have := e g hg; omega
  refine nn (stB (hk1.upd u2 fun e => hne e) (by simp) fun h3 b3 u3 z3 => ?_)
  refine h2 (by omega) h3 ⟨t, s2, b3, ?_, hne2, hfr2, hBd, by rw [List.length_append]; omega, by rw [List.length_append]; omega⟩ ?_
  · rw [cB_append]; exact o2.upd u3 fun g hg e => hne2 (by rw [hg, e])
  · exact (u2.ext hle fun g hg e => by have := hfr g e; omega).trans (u3.ext1 hBd (by have := u2.size; omega))
theorem disk_Sync_ok {R : Int → Heap → Prop} (hd : DRep B h d all k) (hR : ∀ h', DRep B h' d all all.length → Ext B h h' → R 0 h') : C_disk_Disk_Sync (some ⟨d, 0, none⟩) h R := by
  refine A_disk_Disk_Sync ?_
  unfold S_disk_Disk_Sync
  have hle := hd.le
  obtain ⟨t, s, hk1, ho, hne, hfr, hBd, hk, hm⟩ := hd
  have hsn := own_n ho
  refine brF (nn (ldB hk1 s rfl (nn ?_)))
  rw [hsn]
  refine stF hk1 (by simp) fun h3 b3 u3 z3 => ?_
  exact hR h3 ⟨t, s, b3, ho.upd u3 fun g hg e => hne (by rw [hg, e]), hne, hfr, hBd, Nat.le_refl _, hm⟩ (u3.ext1 hBd hle)
/-- A byte of the disk's slice turned in place. -/
theorem disk_flip {t : TypeId} {s : Sl} {i : Int} {c : UInt8} {K : Heap → Prop} (hk1 : Blk h d t [.slice s.a s.n s.c, .int .i64 (k : Int)]) (ho : Own h 1 s (cB all)) (hne : s.blk ≠ some d) (hfr : s.from_ B) (hBd : B ≤ d) (hkk : k ≤ all.length)
    (hm : all.length ≤ 1048576) (j : Nat) (hi : i = (j : Int)) (hj : j < all.length) (hK : ∀ h', DRep B h' d (flp all j c) k → Ext B h h' → K h') :
    Ix s i 1 fun e => Ld (.int .u8) h e fun (x : Int) => Ix s i 1 fun e1 => St h e1 (.int .u8 (bitV .xor .u8 x (c.toNat : Int))) K := by
  have hsn := own_n ho
  refine ixB ho.rd j hi hj (setO0 ho j hi (by omega) (by decide) fun h' o' u' z' => ?_)
  rw [xor_byte, Nat.mul_one, cB_set, ← flp_in hj] at o'
  refine hK h' ⟨t, s, hk1.upd u' fun e => hne e, o', hne, hfr, hBd, by rw [flp_length]; exact hkk, by rw [flp_length]; exact hm⟩ ?_
  exact u'.ext (by have := hk1.lt; omega) fun g hg e => by have := hfr g e; omega
/-- What a crash leaves. -/
def crashL (all : List UInt8) (k : Nat) (keep at_ : Int) (c : UInt8) : List UInt8 :=
  if 0 ≤ at_ ∧ at_ < (min keep.toNat (all.length - k) : Nat) then flp (all.take (k + min keep.toNat (all.length - k))) (k + at_.toNat) c else all.take (k + min keep.toNat (all.length - k))
theorem disk_Crash_ok {keep at_ by_ : Int} {c : UInt8} {R : Int → Heap → Prop} (hd : DRep B h d all k) (hby : by_ = (c.toNat : Int)) (hR : ∀ h', DRep B h' d (crashL all k keep at_ c) k → Ext B h h' → R 0 h') :
    C_disk_Disk_Crash (some ⟨d, 0, none⟩) keep at_ by_ h R := by
  refine A_disk_Disk_Crash ?_
  unfold S_disk_Disk_Crash
  have hle := hd.le
  obtain ⟨t, s, hk1, ho, hne, hfr, hBd, hk, hm⟩ := hd
  have hsn := own_n ho
  have hsc := ho.2.1
  subst hby
  refine brF (nn (ldB hk1 s rfl (nn (ldF hk1 (k : Int) rfl (let_ ?_)))))
  have e1 : (if (IntKind.i64.wrap ((s.n : Int) - k)) < (if 0 > keep then 0 else keep) then IntKind.i64.wrap ((s.n : Int) - k) else if 0 > keep then 0 else keep : Int) = ((min keep.toNat (all.length - k) : Nat) : Int) := by
    rw [w64 (by omega) (by omega)]; split <;> split <;> omega
  rw [e1]
  generalize hkp : min keep.toNat (all.length - k) = kp at *
  have hkp' : k + kp ≤ all.length := by omega
  refine nn (ldB hk1 s rfl (nn (ldF hk1 (k : Int) rfl ?_)))
  rw [w64 (by omega) (by omega)]
  refine cut_own TB ho 0 (k + kp) s.c lo0 (hii (by omega)) (.inl ⟨rfl, rfl⟩) (by omega) (by omega) (by omega) (Nat.le_refl _) fun s2 o2 n2 c2 b2 => ?_
  rw [Nat.zero_mul, List.drop_zero, Nat.sub_zero, Nat.mul_one, cB_take] at o2
  have hne2 : s2.blk ≠ some d := by rw [b2]; exact hne
  have hfr2 : s2.from_ B := fun g hg => hfr g (by rw [← b2]; exact hg)
  refine nn (stB hk1 (by simp) fun h3 b3 u3 z3 => ?_)
  have o3 := o2.upd u3 fun g hg e => hne2 (by rw [hg, e])
  have E3 := u3.ext1 hBd hle
  have hl3 : (all.take (k + kp)).length = k + kp := by rw [List.length_take]; omega
  have hR' : ∀ h', DRep B h' d (if 0 ≤ at_ ∧ at_ < (kp : Int) then flp (all.take (k + kp)) (k + at_.toNat) c else all.take (k + kp)) k → Ext B h h' → R 0 h' := by
    have := hR; unfold crashL at this; rwa [hkp] at this
  have D3 : DRep B h3 d (all.take (k + kp)) k := ⟨t, s2, b3, o3, hne2, hfr2, hBd, by omega, by omega⟩
  refine brD (fun ha => brD (fun hb => ?_) fun hb => ?_) fun ha => ?_
  · rw [if_pos ⟨ha, hb⟩] at hR'
    refine nn (ldB b3 s2 rfl (nn (ldF b3 (k : Int) rfl ?_)))
    rw [w64 (by omega) (by omega)]
    exact disk_flip b3 o3 hne2 hfr2 hBd (by omega) (by omega) (k + at_.toNat) (by omega) (by omega) fun h' D' E' => hR' h' D' (E3.trans E')
  · rw [if_neg (by omega)] at hR'
    exact hR' h3 D3 E3
  · rw [if_neg (by omega)] at hR'
    exact hR' h3 D3 E3
theorem disk_Cut_ok {n : Int} {R : Int → Heap → Prop} (hd : DRep B h d all k) (h1 : (n < 0 ∨ (all.length : Int) < n) → R 5 h) (h2 : 0 ≤ n → n ≤ all.length → ∀ h', DRep B h' d (all.take n.toNat) n.toNat → Ext B h h' → R 0 h') :
    C_disk_Disk_Cut (some ⟨d, 0, none⟩) n h R := by
  refine A_disk_Disk_Cut ?_
  unfold S_disk_Disk_Cut
  have hle := hd.le
  obtain ⟨t, s, hk1, ho, hne, hfr, hBd, hk, hm⟩ := hd
  have hsn := own_n ho
  have hsc := ho.2.1
  refine join0 (fun h' => h' = h ∧ 0 ≤ n ∧ n ≤ all.length) (fun _ h' hJ => ?_) ?_
  · obtain ⟨rfl, hn0, hn1⟩ := hJ
    refine nn (ldB hk1 s rfl (cut_own TB ho 0 n.toNat s.c lo0 (hii (by omega)) (.inl ⟨rfl, rfl⟩) (by omega) (by omega) (by omega) (Nat.le_refl _) fun s2 o2 n2 c2 b2 => ?_))
    rw [Nat.zero_mul, List.drop_zero, Nat.sub_zero, Nat.mul_one, cB_take] at o2
    have hne2 : s2.blk ≠ some d := by rw [b2]; exact hne
    have hfr2 : s2.from_ B := fun g hg => hfr g (by rw [← b2]; exact hg)
    refine nn (stB hk1 (by simp) fun h3 b3 u3 z3 => ?_)
    have o3 := o2.upd u3 fun g hg e => hne2 (by rw [hg, e])
    have E3 := u3.ext1 hBd hle
    have hl3 : (all.take n.toNat).length = n.toNat := by rw [List.length_take]; omega
    have hsync : DRep B h3 d (all.take n.toNat) (min k n.toNat) ∨ True := .inr trivial
    -- the mark may stand past the end for a moment: the sync's own steps
    refine A_disk_Disk_Sync ?_
    unfold S_disk_Disk_Sync
    refine brF (nn (ldB b3 s2 rfl (nn ?_)))
    have hn2 : s2.n = n.toNat := by omega
    rw [hn2]
    refine stF b3 (by simp) fun h4 b4 u4 z4 => ?_
    exact h2 hn0 hn1 h4 ⟨t, s2, by rw [hn2]; exact hn2 ▸ b4, o3.upd u4 fun g hg e => hne2 (by rw [hg, e]), hne2, hfr2, hBd, by omega, by omega⟩ (E3.trans (u4.ext1 hBd (by omega)))
  · refine brF (brD (fun hc => h1 (.inl hc)) fun hc => nn (ldB hk1 s rfl (brD (fun hc2 => h1 (.inr (by omega))) fun hc2 => ⟨rfl, by omega, by omega⟩)))
theorem disk_Spoil_ok {at_ by_ : Int} {c : UInt8} {R : Int → Heap → Prop} (hd : DRep B h d all k) (hby : by_ = (c.toNat : Int)) (h1 : (at_ < 0 ∨ (k : Int) ≤ at_) → R 5 h) (h2 : 0 ≤ at_ → at_ < k → ∀ h', DRep B h' d (flp all at_.toNat c) k → Ext B h h' → R 0 h') :
    C_disk_Disk_Spoil (some ⟨d, 0, none⟩) at_ by_ h R := by
  refine A_disk_Disk_Spoil ?_
  unfold S_disk_Disk_Spoil
  have hle := hd.le
  obtain ⟨t, s, hk1, ho, hne, hfr, hBd, hk, hm⟩ := hd
  subst hby
  refine join0 (fun h' => h' = h ∧ 0 ≤ at_ ∧ at_ < k) (fun _ h' hJ => ?_) ?_
  · obtain ⟨rfl, hn0, hn1⟩ := hJ
    exact nn (ldB hk1 s rfl (disk_flip hk1 ho hne hfr hBd hk hm at_.toNat (by omega) (by omega) fun h' D' E' => h2 hn0 hn1 h' D' E'))
  · refine brF (brD (fun hc => h1 (.inl hc)) fun hc => nn (ldF hk1 (k : Int) rfl (brD (fun hc2 => h1 (.inr hc2)) fun hc2 => ⟨rfl, by omega, by omega⟩)))
theorem bytes_Clone_ok {b : Sl} {xs : List UInt8} {R : Sl → Heap → Prop} (hb : RdS h 1 b (cB xs)) (hx : xs.length ≤ 1000000000000) (hR : ∀ r h', RdS h' 1 r (cB xs) → r.n ≤ r.c → r.c ≤ 9223372036854775807 → r.from_ h.size → r.below h'.size → Ext h.size h h' → R r h') : C_bytes_Clone b h R := by
  refine A_bytes_Clone ?_
  unfold S_bytes_Clone
  have hbn := rd_n hb
  refine brB (fun hn => ?_) fun hn => ?_
  · have ha : b.a = none := by simpa using hn
    have hx0 : xs = [] := by
      apply List.eq_nil_of_length_eq_zero
      apply Nat.eq_zero_of_not_pos
      intro hp
      obtain ⟨g, o, ha', _⟩ := hb.2 (by rw [cB_length]; exact hp)
      rw [ha] at ha'; cases ha'
    subst hx0
    exact hR _ h (RdS.nil _ _ _ _) (Nat.le_refl _) (by simp) (fun g hg => by simp [Sl.blk] at hg) (fun g hg => by simp [Sl.blk] at hg) (Ext.refl _ _)
  · refine alloc (cs := cB []) fun h2 b2 e2 z2 => ?_
    have o2 : Own h2 1 ⟨some ⟨h.size, 0, none⟩, 0, 0⟩ (cB []) := Own.full b2 (sz := 1) (n := 0) (by rfl) (by decide)
    refine app TB o2 (hb.ext' e2) cB_one (by show (0 + b.n) * 1 ≤ _; omega) (by show 0 + b.n ≤ _; omega) fun s3 h3 o3 n3 u3 b3 => ?_
    have hf3 : s3.from_ h.size := by
      rcases b3 with e | e
      · intro g hg; rw [e] at hg; simp [Sl.blk] at hg; omega
      · intro g hg; have := e g hg; omega
    rw [← cB_append] at o3
    exact hR s3 h3 o3.rd o3.2.1 o3.2.2.1 hf3 o3.below (e2.trans (u3.ext (by omega) fun g hg e => by simp [Sl.blk] at e; omega))
theorem disk_Bytes_ok {R : Sl → Heap → Prop} (hd : DRep B h d all k) (hR : ∀ r h', RdS h' 1 r (cB all) → r.n ≤ r.c → r.c ≤ 9223372036854775807 → r.from_ h.size → r.below h'.size → Ext h.size h h' → R r h') : C_disk_Disk_Bytes (some ⟨d, 0, none⟩) h R := by
  refine A_disk_Disk_Bytes ?_
  unfold S_disk_Disk_Bytes
  obtain ⟨t, s, hk1, ho, hne, hfr, hBd, hk, hm⟩ := hd
  exact brF (nn (ldB hk1 s rfl (bytes_Clone_ok ho.rd (by omega) hR)))
theorem disk_Synced_ok {R : Int → Heap → Prop} (hd : DRep B h d all k) (hR : R (k : Int) h) : C_disk_Disk_Synced (some ⟨d, 0, none⟩) h R := by
  refine A_disk_Disk_Synced ?_
  obtain ⟨t, s, hk1, ho, hne, hfr, hBd, hk, hm⟩ := hd
  exact brF (nn (ldF hk1 (k : Int) rfl hR))
theorem disk_Len_ok {R : Int → Heap → Prop} (hd : DRep B h d all k) (hR : R (all.length : Int) h) : C_disk_Disk_Len (some ⟨d, 0, none⟩) h R := by
  refine A_disk_Disk_Len ?_
  obtain ⟨t, s, hk1, ho, hne, hfr, hBd, hk, hm⟩ := hd
  rw [← own_n ho] at hR
  exact brF (nn (ldB hk1 s rfl hR))
theorem disk_Write_nil {b : Sl} {R : Int → Heap → Prop} (hR : R 1 h) : C_disk_Disk_Write none b h R := A_disk_Disk_Write hR
theorem disk_Sync_nil {R : Int → Heap → Prop} (hR : R 1 h) : C_disk_Disk_Sync none h R := A_disk_Disk_Sync hR
theorem disk_Len_nil {R : Int → Heap → Prop} (hR : R 0 h) : C_disk_Disk_Len none h R := A_disk_Disk_Len hR
theorem disk_Synced_nil {R : Int → Heap → Prop} (hR : R 0 h) : C_disk_Disk_Synced none h R := A_disk_Disk_Synced hR
theorem disk_Bytes_nil {R : Sl → Heap → Prop} (hR : R ⟨none, 0, 0⟩ h) : C_disk_Disk_Bytes none h R := A_disk_Disk_Bytes hR
end
end Go.Proofs.Ytfafikomhbedbaa
