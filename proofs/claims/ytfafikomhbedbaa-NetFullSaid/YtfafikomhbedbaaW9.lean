/-
  Layer 9 (net): contracts, for numbers and for texts. Written by wip/gen/net.py.
-/
import Derived.Test.YtfafikomhbedbaaRe
import Derived.Test.YtfafikomhbedbaaW2
import Derived.Test.YtfafikomhbedbaaSD
namespace Go.Proofs.Ytfafikomhbedbaa
open Go

/-- A net: its struct's block, its slice, what is under way; all of it lies behind B. -/
def NRep (B : Nat) (h : Heap) (d : Nat) (s : Sl) (xs : List Value) : Prop :=
  (∃ t, Blk h d t [.slice s.a s.n s.c]) ∧ Own h 1 s xs ∧ s.blk ≠ some d ∧ s.from_ B ∧ B ≤ d ∧ xs.length ≤ 512
/-- What a step of a net turns: its own two blocks; its slice lies where it lay, or in a new block. -/
def NUpd (h : Heap) (d : Nat) (s : Sl) (h' : Heap) (s' : Sl) : Prop := Upd (fun g => g = d ∨ s.blk = some g) h h' ∧ (s'.blk = s.blk ∨ s'.from_ h.size)
theorem NRep.keep {B : Nat} {h h' : Heap} {d : Nat} {s : Sl} {xs : List Value} (hd : NRep B h d s xs) {G : Nat → Prop} (he : Upd G h h') (h0 : ¬ G d) (h1 : ∀ g, s.blk = some g → ¬ G g) : NRep B h' d s xs := by
  obtain ⟨⟨t, a1⟩, h2, h3, h4, h5, h6⟩ := hd
  exact ⟨⟨t, a1.upd he h0⟩, h2.upd he h1, h3, h4, h5, h6⟩
theorem NRep.ext {B : Nat} {h h' : Heap} {d : Nat} {s : Sl} {xs : List Value} (hd : NRep B h d s xs) (he : Ext h.size h h') : NRep B h' d s xs := hd.keep (he.upd fun _ => False) (fun x => x) fun _ _ x => x
theorem NRep.le {B : Nat} {h : Heap} {d : Nat} {s : Sl} {xs : List Value} (hd : NRep B h d s xs) : B ≤ h.size := by
  obtain ⟨⟨t, h1⟩, h2, h3, h4, h5, h6⟩ := hd
  have := h1.lt; omega
theorem NRep.len {B : Nat} {h : Heap} {d : Nat} {s : Sl} {xs : List Value} (hd : NRep B h d s xs) : xs.length ≤ 512 := hd.2.2.2.2.2
theorem NUpd.ext {B : Nat} {h h' : Heap} {d : Nat} {s s' : Sl} {xs : List Value} (hu : NUpd h d s h' s') (hd : NRep B h d s xs) : Ext B h h' := by
  have hle := hd.le
  obtain ⟨_, _, _, h4, h5, _⟩ := hd
  exact hu.1.ext hle fun g hg e => by
    rcases e with e | e
    · omega
    · have := h4 g e; omega
theorem own_n1 {h : Heap} {s : Sl} {l : List Value} (ho : Own h 1 s l) : s.n = l.length := by have := ho.1; omega
theorem rd_n1 {h : Heap} {s : Sl} {l : List Value} (ho : RdS h 1 s l) : s.n = l.length := by have := ho.1; omega
def cI (l : List Int) : List Value := l.map (.int .i64 ·)
def cS (l : List ByteArray) : List Value := l.map .string
theorem TI : ElemT Try.prog 61 3 1 8 := .of (by kernel_rfl)
theorem ZI : ZeroT Try.prog 3 [.int .i64 0] := ⟨by kernel_rfl⟩
theorem TST : ElemT Try.prog 105 9 1 16 := .of (by kernel_rfl)
theorem ZST : ZeroT Try.prog 9 [.string ByteArray.empty] := ⟨by kernel_rfl⟩

/-! ## Numbers -/
theorem cI_length (l : List Int) : (cI l).length = l.length := by simp [cI]
theorem cI_append (a b : List Int) : cI (a ++ b) = cI a ++ cI b := by simp [cI]
theorem cI_take (l : List Int) (n : Nat) : (cI l).take n = cI (l.take n) := by simp [cI]
theorem cI_drop (l : List Int) (n : Nat) : (cI l).drop n = cI (l.drop n) := by simp [cI]
theorem cI_one {l : List Int} : ∀ u ∈ cI l, u.oneCell' = true := by
  intro u hu
  obtain ⟨n, _, rfl⟩ := List.mem_map.1 hu
  rfl
theorem ixcI {h : Heap} {s : Sl} {l : List Int} {i : Int} {K : Int → Prop} (hr : RdS h 1 s (cI l)) (k : Nat) (hi : i = (k : Int)) (hk : k < l.length) (hK : K l[k]) :
    Ix s i 1 fun e => Ld (.int .i64) h e K := by
  subst hi
  have hlen : l.length = s.n := by have := hr.1; rw [cI_length] at this; omega
  refine ix hr (by omega) (by omega) (by decide) fun g o _ hc => ?_
  have := hc 0 (by decide)
  simp only [Nat.add_zero, Int.toNat_natCast, Nat.mul_one] at this
  exact ld _ (this.trans (by simp [cI, List.getElem?_eq_getElem hk])) hK
section
variable {B : Nat} {h : Heap} {d : Nat} {s : Sl} {l : List Int}
theorem slices_Delete_int_ok {i j : Int} {R : Sl → Heap → Prop} (ho : Own h 1 s (cI l)) (k : Nat) (hi : i = (k : Int)) (hj : j = ((k + 1 : Nat) : Int)) (hk : k < l.length) (hlen : l.length ≤ 1000000)
    (hR : ∀ s' h', Own h' 1 s' (cI (l.take k ++ l.drop (k + 1))) → s'.blk = s.blk → Upd (fun g => s.blk = some g) h h' → h'.size = h.size → R s' h') : C_slices_Delete_int_int s i j h R := by
  refine A_slices_Delete_int_int ?_
  unfold S_slices_Delete_int_int
  have hsn := own_n1 ho
  rw [cI_length] at hsn
  have hsc := ho.2.1
  refine cut_rd TI ho.rd k (k + 1) s.n (loi hi) (hii hj) (.inr ⟨hii rfl, by simp⟩) (by omega) (by omega) (by omega) hsc fun s1 _ _ _ _ => ?_
  refine brN (by simp; omega) (let_ ?_)
  refine cut_own TI ho 0 k s.c lo0 (hii hi) (.inl ⟨rfl, rfl⟩) (by omega) (by omega) (by omega) (Nat.le_refl _) fun s2 o2 n2 c2 b2 => ?_
  refine cut_rd TI ho.rd (k + 1) s.n s.c (loi hj) (hi0 _) (.inl ⟨rfl, rfl⟩) (by omega) (Nat.le_refl _) hsc (Nat.le_refl _) fun s3 r3 n3 c3 b3 => ?_
  rw [Nat.zero_mul, List.drop_zero, Nat.sub_zero, Nat.mul_one, cI_take] at o2
  rw [Nat.mul_one, Nat.mul_one, cI_drop, cI_take, List.take_of_length_le (by rw [List.length_drop]; omega)] at r3
  refine app_room TI o2 r3 cI_one (by omega) (by omega) (by omega) fun h2 o4 u4 z4 => ?_
  rw [← cI_append] at o4
  refine cutClr TI ZI rfl o4 s.n (loi rfl) (hii rfl) (by show s2.n + s3.n ≤ _; omega) (by show s.n ≤ s2.c; omega) fun h3 o5 u5 z5 => ?_
  refine hR _ h3 o5 (by rw [← b2]; rfl) (u4.trans u5 (fun g _ hg => by rw [← b2]; exact hg) (fun g _ hg => by rw [← b2]; exact hg)) (by omega)
theorem slices_Clone_int_ok {b : Sl} {R : Sl → Heap → Prop} (hb : RdS h 1 b (cI l)) (hx : l.length ≤ 1000000) (hR : ∀ r h', RdS h' 1 r (cI l) → r.from_ h.size → Ext h.size h h' → R r h') : C_slices_Clone_int_int b h R := by
  refine A_slices_Clone_int_int ?_
  unfold S_slices_Clone_int_int
  have hbn := rd_n1 hb
  rw [cI_length] at hbn
  refine brB (fun hn => ?_) fun hn => ?_
  · have ha : b.a = none := by simpa using hn
    have hx0 : l = [] := by
      apply List.eq_nil_of_length_eq_zero
      apply Nat.eq_zero_of_not_pos
      intro hp
      obtain ⟨g, o, ha', _⟩ := hb.2 (by rw [cI_length]; exact hp)
      rw [ha] at ha'; cases ha'
    subst hx0
    exact hR _ h (RdS.nil _ _ _ _) (fun g hg => by simp [Sl.blk] at hg) (Ext.refl _ _)
  · refine alloc (cs := cI []) fun h2 b2 e2 z2 => ?_
    have o2 : Own h2 1 ⟨some ⟨h.size, 0, none⟩, 0, 0⟩ (cI []) := Own.full b2 (sz := 1) (n := 0) (by rfl) (by decide)
    refine app TI o2 (hb.ext' e2) cI_one (by show (0 + b.n) * 8 ≤ _; omega) (by show 0 + b.n ≤ _; omega) fun s3 h3 o3 n3 u3 b3 => ?_
    have hf3 : s3.from_ h.size := by
      rcases b3 with e | e
      · intro g hg; rw [e] at hg; simp [Sl.blk] at hg; omega
      · intro g hg; have := e g hg; omega
    rw [← cI_append] at o3
    exact hR s3 h3 o3.rd hf3 (e2.trans (u3.ext (by omega) fun g hg e => by simp [Sl.blk] at e; omega))
theorem net_New_int_ok {R : Option Addr → Heap → Prop} (hB : B ≤ h.size) (hR : ∀ h' d, NRep B h' d ⟨none, 0, 0⟩ (cI []) → h.size ≤ d → Ext h.size h h' → R (some ⟨d, 0, none⟩) h') : C_net_New_int h R := by
  refine A_net_New_int ?_
  unfold S_net_New_int
  refine alloc (cs := [.slice none 0 0]) fun h' b e z => hR h' _ ⟨⟨_, b⟩, Own.nil _ _, (by simp [Sl.blk]), (fun g hg => by simp [Sl.blk] at hg), hB, (by simp [cI])⟩ (Nat.le_refl _) e
theorem net_at_int_ok {i : Int} {R : Int → Heap → Prop} (hd : NRep B h d s (cI l)) (h1 : (i < 0 ∨ (l.length : Int) ≤ i) → R 6 h) (h2 : 0 ≤ i → i < l.length → R 0 h) : C_net_Net_int_at (some ⟨d, 0, none⟩) i h R := by
  refine A_net_Net_int_at ?_
  unfold S_net_Net_int_at
  obtain ⟨⟨t, hk1⟩, ho, hne, hfr, hBd, hm⟩ := hd
  have hsn := own_n1 ho
  rw [cI_length] at hsn
  exact brF (brD (fun hc => h1 (.inl hc)) fun hc => nn (ldB hk1 s rfl (brD (fun hc2 => h1 (.inr (by omega))) fun hc2 => h2 (by omega) (by omega))))
theorem net_Send_int_ok {x : Int} {R : Int → Heap → Prop} (hd : NRep B h d s (cI l)) (h1 : 512 ≤ l.length → R 7 h) (h2 : l.length < 512 → ∀ h' s', NRep B h' d s' (cI (l ++ [x])) → NUpd h d s h' s' → R 0 h') : C_net_Net_int_Send (some ⟨d, 0, none⟩) x h R := by
  refine A_net_Net_int_Send ?_
  unfold S_net_Net_int_Send
  have hle := hd.le
  obtain ⟨⟨t, hk1⟩, ho, hne, hfr, hBd, hm⟩ := hd
  have hsn := own_n1 ho
  rw [cI_length] at hsn hm
  refine brF (nn (ldB hk1 s rfl (brD (fun hc => h1 (by omega)) fun hc => nn (ldB hk1 s rfl ?_))))
  refine alloc (cs := cI [x]) fun h2' b2 e2 z2 => ?_
  have r2 : RdS h2' 1 ⟨some ⟨h.size, 0, none⟩, 1, 1⟩ (cI [x]) := (Own.full b2 (sz := 1) (n := 1) (by rfl) (by decide)).rd
  refine app TI (ho.ext' e2) r2 cI_one (by show (s.n + 1) * 8 ≤ _; omega) (by show s.n + 1 ≤ _; omega) fun s3 h3 o3 n3 u3 b3 => ?_
  have hdl := hk1.lt
  have hne2 : s3.blk ≠ some d := by
    rcases b3 with e | e
    · rw [e]; exact hne
    · intro hg; have := e d hg; omega
  have hfr2 : s3.from_ B := by
    rcases b3 with e | e
    · intro g hg; exact hfr g (by rw [← e]; exact hg)
    · intro g hg; have := e g hg; omega
  refine nn (stB ((hk1.upd (e2.upd fun _ => False) (fun x => x)).upd u3 fun e => hne e) (by simp) fun h4 b4 u4 z4 => ?_)
  refine h2 (by omega) h4 s3 ⟨⟨t, b4⟩, ?_, hne2, hfr2, hBd, by rw [cI_length, List.length_append]; simp; omega⟩ ⟨?_, b3.imp id fun e g hg => by have := e g hg; omega⟩
  · rw [cI_append]; exact o3.upd u4 fun g hg e => hne2 (by rw [hg, e])
  · exact ((e2.upd fun g => g = d ∨ s.blk = some g).trans u3 (fun _ _ x => x) fun _ _ x => .inr x).trans u4 (fun _ _ x => x) fun _ _ x => .inl x
theorem net_Take_int_ok {i : Int} {R : Int → Int → Heap → Prop} (hd : NRep B h d s (cI l)) (h1 : (i < 0 ∨ (l.length : Int) ≤ i) → R 0 6 h)
    (h2 : ∀ (k : Nat) (hk : k < l.length), i = (k : Int) → ∀ h' s', NRep B h' d s' (cI (l.take k ++ l.drop (k + 1))) → NUpd h d s h' s' → R l[k] 0 h') : C_net_Net_int_Take (some ⟨d, 0, none⟩) i h R := by
  refine A_net_Net_int_Take ?_
  unfold S_net_Net_int_Take
  refine net_at_int_ok hd (fun hb => brY rfl (h1 hb)) fun h0 hl => brN rfl ?_
  have hle := hd.le
  obtain ⟨⟨t, hk1⟩, ho, hne, hfr, hBd, hm⟩ := hd
  have hsn := own_n1 ho
  rw [cI_length] at hsn hm
  have hk : i.toNat < l.length := by omega
  refine nn (ldB hk1 s rfl (ixcI ho.rd i.toNat (by omega) hk (nn (ldB hk1 s rfl ?_))))
  rw [w64 (by omega) (by omega)]
  refine slices_Delete_int_ok ho i.toNat (by omega) (by omega) hk (by omega) fun s3 h3 o3 b3 u3 z3 => ?_
  refine nn (stB (hk1.upd u3 fun e => hne e) (by simp) fun h4 b4 u4 z4 => ?_)
  have hne2 : s3.blk ≠ some d := by rw [b3]; exact hne
  refine h2 i.toNat hk (by omega) h4 s3 ⟨⟨t, b4⟩, o3.upd u4 fun g hg e => hne2 (by rw [hg, e]), hne2, fun g hg => hfr g (by rw [← b3]; exact hg), hBd, ?_⟩ ⟨?_, .inl b3⟩
  · rw [cI_length, List.length_append, List.length_take, List.length_drop]; omega
  · exact (u3.trans u4 (fun _ _ x => .inr x) fun _ _ x => .inl x)
theorem net_Double_int_ok {i : Int} {R : Int → Heap → Prop} (hd : NRep B h d s (cI l)) (h1 : (i < 0 ∨ (l.length : Int) ≤ i) → R 6 h) (h2 : 0 ≤ i → i < l.length → 512 ≤ l.length → R 7 h)
    (h3 : ∀ (k : Nat) (hk : k < l.length), i = (k : Int) → l.length < 512 → ∀ h' s', NRep B h' d s' (cI (l ++ [l[k]])) → NUpd h d s h' s' → R 0 h') : C_net_Net_int_Double (some ⟨d, 0, none⟩) i h R := by
  refine A_net_Net_int_Double ?_
  unfold S_net_Net_int_Double
  refine net_at_int_ok hd (fun hb => brY rfl (h1 hb)) fun h0 hl => brN rfl ?_
  have hd' := hd
  obtain ⟨⟨t, hk1⟩, ho, hne, hfr, hBd, hm⟩ := hd
  have hk : i.toNat < l.length := by omega
  refine nn (ldB hk1 s rfl (ixcI ho.rd i.toNat (by omega) hk ?_))
  exact net_Send_int_ok hd' (fun hf => h2 h0 hl hf) fun hf h' s' n' e' => h3 i.toNat hk (by omega) hf h' s' n' e'
theorem net_All_int_ok {R : Sl → Heap → Prop} (hd : NRep B h d s (cI l)) (hR : ∀ r h', RdS h' 1 r (cI l) → r.from_ h.size → Ext h.size h h' → R r h') : C_net_Net_int_All (some ⟨d, 0, none⟩) h R := by
  refine A_net_Net_int_All ?_
  unfold S_net_Net_int_All
  obtain ⟨⟨t, hk1⟩, ho, hne, hfr, hBd, hm⟩ := hd
  rw [cI_length] at hm
  exact brF (nn (ldB hk1 s rfl (slices_Clone_int_ok ho.rd (by omega) hR)))
end

/-! ## Texts -/
theorem cS_length (l : List ByteArray) : (cS l).length = l.length := by simp [cS]
theorem cS_append (a b : List ByteArray) : cS (a ++ b) = cS a ++ cS b := by simp [cS]
theorem cS_take (l : List ByteArray) (n : Nat) : (cS l).take n = cS (l.take n) := by simp [cS]
theorem cS_drop (l : List ByteArray) (n : Nat) : (cS l).drop n = cS (l.drop n) := by simp [cS]
theorem cS_one {l : List ByteArray} : ∀ u ∈ cS l, u.oneCell' = true := by
  intro u hu
  obtain ⟨n, _, rfl⟩ := List.mem_map.1 hu
  rfl
theorem ixcS {h : Heap} {s : Sl} {l : List ByteArray} {i : Int} {K : ByteArray → Prop} (hr : RdS h 1 s (cS l)) (k : Nat) (hi : i = (k : Int)) (hk : k < l.length) (hK : K l[k]) :
    Ix s i 1 fun e => Ld .str h e K := by
  subst hi
  have hlen : l.length = s.n := by have := hr.1; rw [cS_length] at this; omega
  refine ix hr (by omega) (by omega) (by decide) fun g o _ hc => ?_
  have := hc 0 (by decide)
  simp only [Nat.add_zero, Int.toNat_natCast, Nat.mul_one] at this
  exact ld _ (this.trans (by simp [cS, List.getElem?_eq_getElem hk])) hK
section
variable {B : Nat} {h : Heap} {d : Nat} {s : Sl} {l : List ByteArray}
theorem slices_Delete_string_ok {i j : Int} {R : Sl → Heap → Prop} (ho : Own h 1 s (cS l)) (k : Nat) (hi : i = (k : Int)) (hj : j = ((k + 1 : Nat) : Int)) (hk : k < l.length) (hlen : l.length ≤ 1000000)
    (hR : ∀ s' h', Own h' 1 s' (cS (l.take k ++ l.drop (k + 1))) → s'.blk = s.blk → Upd (fun g => s.blk = some g) h h' → h'.size = h.size → R s' h') : C_slices_Delete_string_string s i j h R := by
  refine A_slices_Delete_string_string ?_
  unfold S_slices_Delete_string_string
  have hsn := own_n1 ho
  rw [cS_length] at hsn
  have hsc := ho.2.1
  refine cut_rd TST ho.rd k (k + 1) s.n (loi hi) (hii hj) (.inr ⟨hii rfl, by simp⟩) (by omega) (by omega) (by omega) hsc fun s1 _ _ _ _ => ?_
  refine brN (by simp; omega) (let_ ?_)
  refine cut_own TST ho 0 k s.c lo0 (hii hi) (.inl ⟨rfl, rfl⟩) (by omega) (by omega) (by omega) (Nat.le_refl _) fun s2 o2 n2 c2 b2 => ?_
  refine cut_rd TST ho.rd (k + 1) s.n s.c (loi hj) (hi0 _) (.inl ⟨rfl, rfl⟩) (by omega) (Nat.le_refl _) hsc (Nat.le_refl _) fun s3 r3 n3 c3 b3 => ?_
  rw [Nat.zero_mul, List.drop_zero, Nat.sub_zero, Nat.mul_one, cS_take] at o2
  rw [Nat.mul_one, Nat.mul_one, cS_drop, cS_take, List.take_of_length_le (by rw [List.length_drop]; omega)] at r3
  refine app_room TST o2 r3 cS_one (by omega) (by omega) (by omega) fun h2 o4 u4 z4 => ?_
  rw [← cS_append] at o4
  refine cutClr TST ZST rfl o4 s.n (loi rfl) (hii rfl) (by show s2.n + s3.n ≤ _; omega) (by show s.n ≤ s2.c; omega) fun h3 o5 u5 z5 => ?_
  refine hR _ h3 o5 (by rw [← b2]; rfl) (u4.trans u5 (fun g _ hg => by rw [← b2]; exact hg) (fun g _ hg => by rw [← b2]; exact hg)) (by omega)
theorem slices_Clone_string_ok {b : Sl} {R : Sl → Heap → Prop} (hb : RdS h 1 b (cS l)) (hx : l.length ≤ 1000000) (hR : ∀ r h', RdS h' 1 r (cS l) → r.from_ h.size → Ext h.size h h' → R r h') : C_slices_Clone_string_string b h R := by
  refine A_slices_Clone_string_string ?_
  unfold S_slices_Clone_string_string
  have hbn := rd_n1 hb
  rw [cS_length] at hbn
  refine brB (fun hn => ?_) fun hn => ?_
  · have ha : b.a = none := by simpa using hn
    have hx0 : l = [] := by
      apply List.eq_nil_of_length_eq_zero
      apply Nat.eq_zero_of_not_pos
      intro hp
      obtain ⟨g, o, ha', _⟩ := hb.2 (by rw [cS_length]; exact hp)
      rw [ha] at ha'; cases ha'
    subst hx0
    exact hR _ h (RdS.nil _ _ _ _) (fun g hg => by simp [Sl.blk] at hg) (Ext.refl _ _)
  · refine alloc (cs := cS []) fun h2 b2 e2 z2 => ?_
    have o2 : Own h2 1 ⟨some ⟨h.size, 0, none⟩, 0, 0⟩ (cS []) := Own.full b2 (sz := 1) (n := 0) (by rfl) (by decide)
    refine app TST o2 (hb.ext' e2) cS_one (by show (0 + b.n) * 16 ≤ _; omega) (by show 0 + b.n ≤ _; omega) fun s3 h3 o3 n3 u3 b3 => ?_
    have hf3 : s3.from_ h.size := by
      rcases b3 with e | e
      · intro g hg; rw [e] at hg; simp [Sl.blk] at hg; omega
      · intro g hg; have := e g hg; omega
    rw [← cS_append] at o3
    exact hR s3 h3 o3.rd hf3 (e2.trans (u3.ext (by omega) fun g hg e => by simp [Sl.blk] at e; omega))
theorem net_New_string_ok {R : Option Addr → Heap → Prop} (hB : B ≤ h.size) (hR : ∀ h' d, NRep B h' d ⟨none, 0, 0⟩ (cS []) → h.size ≤ d → Ext h.size h h' → R (some ⟨d, 0, none⟩) h') : C_net_New_string h R := by
  refine A_net_New_string ?_
  unfold S_net_New_string
  refine alloc (cs := [.slice none 0 0]) fun h' b e z => hR h' _ ⟨⟨_, b⟩, Own.nil _ _, (by simp [Sl.blk]), (fun g hg => by simp [Sl.blk] at hg), hB, (by simp [cS])⟩ (Nat.le_refl _) e
theorem net_at_string_ok {i : Int} {R : Int → Heap → Prop} (hd : NRep B h d s (cS l)) (h1 : (i < 0 ∨ (l.length : Int) ≤ i) → R 6 h) (h2 : 0 ≤ i → i < l.length → R 0 h) : C_net_Net_string_at (some ⟨d, 0, none⟩) i h R := by
  refine A_net_Net_string_at ?_
  unfold S_net_Net_string_at
  obtain ⟨⟨t, hk1⟩, ho, hne, hfr, hBd, hm⟩ := hd
  have hsn := own_n1 ho
  rw [cS_length] at hsn
  exact brF (brD (fun hc => h1 (.inl hc)) fun hc => nn (ldB hk1 s rfl (brD (fun hc2 => h1 (.inr (by omega))) fun hc2 => h2 (by omega) (by omega))))
theorem net_Send_string_ok {x : ByteArray} {R : Int → Heap → Prop} (hd : NRep B h d s (cS l)) (h1 : 512 ≤ l.length → R 7 h) (h2 : l.length < 512 → ∀ h' s', NRep B h' d s' (cS (l ++ [x])) → NUpd h d s h' s' → R 0 h') : C_net_Net_string_Send (some ⟨d, 0, none⟩) x h R := by
  refine A_net_Net_string_Send ?_
  unfold S_net_Net_string_Send
  have hle := hd.le
  obtain ⟨⟨t, hk1⟩, ho, hne, hfr, hBd, hm⟩ := hd
  have hsn := own_n1 ho
  rw [cS_length] at hsn hm
  refine brF (nn (ldB hk1 s rfl (brD (fun hc => h1 (by omega)) fun hc => nn (ldB hk1 s rfl ?_))))
  refine alloc (cs := cS [x]) fun h2' b2 e2 z2 => ?_
  have r2 : RdS h2' 1 ⟨some ⟨h.size, 0, none⟩, 1, 1⟩ (cS [x]) := (Own.full b2 (sz := 1) (n := 1) (by rfl) (by decide)).rd
  refine app TST (ho.ext' e2) r2 cS_one (by show (s.n + 1) * 16 ≤ _; omega) (by show s.n + 1 ≤ _; omega) fun s3 h3 o3 n3 u3 b3 => ?_
  have hdl := hk1.lt
  have hne2 : s3.blk ≠ some d := by
    rcases b3 with e | e
    · rw [e]; exact hne
    · intro hg; have := e d hg; omega
  have hfr2 : s3.from_ B := by
    rcases b3 with e | e
    · intro g hg; exact hfr g (by rw [← e]; exact hg)
    · intro g hg; have := e g hg; omega
  refine nn (stB ((hk1.upd (e2.upd fun _ => False) (fun x => x)).upd u3 fun e => hne e) (by simp) fun h4 b4 u4 z4 => ?_)
  refine h2 (by omega) h4 s3 ⟨⟨t, b4⟩, ?_, hne2, hfr2, hBd, by rw [cS_length, List.length_append]; simp; omega⟩ ⟨?_, b3.imp id fun e g hg => by have := e g hg; omega⟩
  · rw [cS_append]; exact o3.upd u4 fun g hg e => hne2 (by rw [hg, e])
  · exact ((e2.upd fun g => g = d ∨ s.blk = some g).trans u3 (fun _ _ x => x) fun _ _ x => .inr x).trans u4 (fun _ _ x => x) fun _ _ x => .inl x
theorem net_Take_string_ok {i : Int} {R : ByteArray → Int → Heap → Prop} (hd : NRep B h d s (cS l)) (h1 : (i < 0 ∨ (l.length : Int) ≤ i) → R (⟨#[]⟩ : ByteArray) 6 h)
    (h2 : ∀ (k : Nat) (hk : k < l.length), i = (k : Int) → ∀ h' s', NRep B h' d s' (cS (l.take k ++ l.drop (k + 1))) → NUpd h d s h' s' → R l[k] 0 h') : C_net_Net_string_Take (some ⟨d, 0, none⟩) i h R := by
  refine A_net_Net_string_Take ?_
  unfold S_net_Net_string_Take
  refine net_at_string_ok hd (fun hb => brY rfl (h1 hb)) fun h0 hl => brN rfl ?_
  have hle := hd.le
  obtain ⟨⟨t, hk1⟩, ho, hne, hfr, hBd, hm⟩ := hd
  have hsn := own_n1 ho
  rw [cS_length] at hsn hm
  have hk : i.toNat < l.length := by omega
  refine nn (ldB hk1 s rfl (ixcS ho.rd i.toNat (by omega) hk (nn (ldB hk1 s rfl ?_))))
  rw [w64 (by omega) (by omega)]
  refine slices_Delete_string_ok ho i.toNat (by omega) (by omega) hk (by omega) fun s3 h3 o3 b3 u3 z3 => ?_
  refine nn (stB (hk1.upd u3 fun e => hne e) (by simp) fun h4 b4 u4 z4 => ?_)
  have hne2 : s3.blk ≠ some d := by rw [b3]; exact hne
  refine h2 i.toNat hk (by omega) h4 s3 ⟨⟨t, b4⟩, o3.upd u4 fun g hg e => hne2 (by rw [hg, e]), hne2, fun g hg => hfr g (by rw [← b3]; exact hg), hBd, ?_⟩ ⟨?_, .inl b3⟩
  · rw [cS_length, List.length_append, List.length_take, List.length_drop]; omega
  · exact (u3.trans u4 (fun _ _ x => .inr x) fun _ _ x => .inl x)
theorem net_Double_string_ok {i : Int} {R : Int → Heap → Prop} (hd : NRep B h d s (cS l)) (h1 : (i < 0 ∨ (l.length : Int) ≤ i) → R 6 h) (h2 : 0 ≤ i → i < l.length → 512 ≤ l.length → R 7 h)
    (h3 : ∀ (k : Nat) (hk : k < l.length), i = (k : Int) → l.length < 512 → ∀ h' s', NRep B h' d s' (cS (l ++ [l[k]])) → NUpd h d s h' s' → R 0 h') : C_net_Net_string_Double (some ⟨d, 0, none⟩) i h R := by
  refine A_net_Net_string_Double ?_
  unfold S_net_Net_string_Double
  refine net_at_string_ok hd (fun hb => brY rfl (h1 hb)) fun h0 hl => brN rfl ?_
  have hd' := hd
  obtain ⟨⟨t, hk1⟩, ho, hne, hfr, hBd, hm⟩ := hd
  have hk : i.toNat < l.length := by omega
  refine nn (ldB hk1 s rfl (ixcS ho.rd i.toNat (by omega) hk ?_))
  exact net_Send_string_ok hd' (fun hf => h2 h0 hl hf) fun hf h' s' n' e' => h3 i.toNat hk (by omega) hf h' s' n' e'
theorem net_All_string_ok {R : Sl → Heap → Prop} (hd : NRep B h d s (cS l)) (hR : ∀ r h', RdS h' 1 r (cS l) → r.from_ h.size → Ext h.size h h' → R r h') : C_net_Net_string_All (some ⟨d, 0, none⟩) h R := by
  refine A_net_Net_string_All ?_
  unfold S_net_Net_string_All
  obtain ⟨⟨t, hk1⟩, ho, hne, hfr, hBd, hm⟩ := hd
  rw [cS_length] at hm
  exact brF (nn (ldB hk1 s rfl (slices_Clone_string_ok ho.rd (by omega) hR)))
end

/-! ## What numbers alone are asked -/
section
variable {B : Nat} {h : Heap} {d : Nat} {s : Sl} {l : List Int}
theorem net_Len_int_ok {R : Int → Heap → Prop} (hd : NRep B h d s (cI l)) (hR : R (l.length : Int) h) : C_net_Net_int_Len (some ⟨d, 0, none⟩) h R := by
  refine A_net_Net_int_Len ?_
  obtain ⟨⟨t, hk1⟩, ho, hne, hfr, hBd, hm⟩ := hd
  have hsn := own_n1 ho
  rw [cI_length] at hsn
  rw [← hsn] at hR
  exact brF (nn (ldB hk1 s rfl hR))
theorem net_Clear_int_ok {R : Heap → Prop} (hd : NRep B h d s (cI l)) (hR : ∀ h' s', NRep B h' d s' (cI []) → NUpd h d s h' s' → R h') : C_net_Net_int_Clear (some ⟨d, 0, none⟩) h R := by
  refine A_net_Net_int_Clear ?_
  unfold S_net_Net_int_Clear
  have hle := hd.le
  obtain ⟨⟨t, hk1⟩, ho, hne, hfr, hBd, hm⟩ := hd
  refine brY rfl (nn (ldB hk1 s rfl (clrO TI ZI rfl ho fun h2 u2 z2 => nn (stB (hk1.upd u2 fun e => hne e) (by simp) fun h3 b3 u3 z3 => ?_))))
  refine hR h3 ⟨none, 0, 0⟩ ⟨⟨t, b3⟩, Own.nil _ _, (by simp [Sl.blk]), (fun g hg => by simp [Sl.blk] at hg), hBd, (by simp [cI])⟩ ⟨?_, .inr fun g hg => by simp [Sl.blk] at hg⟩
  exact u2.trans u3 (fun _ _ x => .inr x) fun _ _ x => .inl x
theorem net_Take_int_nil {i : Int} {R : Int → Int → Heap → Prop} (hR : R 0 1 h) : C_net_Net_int_Take none i h R := by
  refine A_net_Net_int_Take ?_
  unfold S_net_Net_int_Take
  refine A_net_Net_int_at ?_
  exact hR
theorem net_Clear_int_nil {R : Heap → Prop} (hR : R h) : C_net_Net_int_Clear none h R := A_net_Net_int_Clear hR
theorem net_Send_int_nil {x : Int} {R : Int → Heap → Prop} (hR : R 1 h) : C_net_Net_int_Send none x h R := A_net_Net_int_Send hR
theorem net_Len_int_nil {R : Int → Heap → Prop} (hR : R 0 h) : C_net_Net_int_Len none h R := A_net_Net_int_Len hR
theorem net_All_int_nil {R : Sl → Heap → Prop} (hR : R ⟨none, 0, 0⟩ h) : C_net_Net_int_All none h R := A_net_Net_int_All hR
end
end Go.Proofs.Ytfafikomhbedbaa
