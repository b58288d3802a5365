/-
  Layer 1 (word): contracts of the program's reader.
-/
import Derived.Test.YtfafikomhbedbaaRb
import Derived.Test.YtfafikomhbedbaaSA
namespace Go.Proofs.Ytfafikomhbedbaa
open Go

theorem TB : ElemT Try.prog 23 5 1 1 := .of (by kernel_rfl)
theorem BT : ByteT Try.prog 23 9 5 := .of (by kernel_rfl)

/-- A reader: its struct's block; what is left; whether it failed. F: where the bytes may lie. -/
def RRep (F : Nat → Prop) (h : Heap) (p : Nat) (bad : Bool) (l : List UInt8) : Prop :=
  ∃ t s, Blk h p t [.slice s.a s.n s.c, .bool bad] ∧ RdS h 1 s (cB l) ∧ s.n ≤ s.c ∧ s.c ≤ 9223372036854775807 ∧ ∀ g, s.blk = some g → F g
theorem RRep.upd {F G : Nat → Prop} {h h' : Heap} {p : Nat} {bad : Bool} {l : List UInt8} (hr : RRep F h p bad l) (hu : Upd G h h') (hp : ¬ G p) (hF : ∀ g, g < h.size → F g → ¬ G g) : RRep F h' p bad l := by
  obtain ⟨t, s, h1, h2, h3, h4, h5⟩ := hr
  exact ⟨t, s, h1.upd hu hp, h2.keep fun g hg hl => hu.keep g hl (hF g hl (h5 g hg)), h3, h4, h5⟩
theorem RRep.lt {F : Nat → Prop} {h : Heap} {p : Nat} {bad : Bool} {l : List UInt8} (hr : RRep F h p bad l) : p < h.size := by
  obtain ⟨t, s, h1, _⟩ := hr
  exact h1.lt

theorem word_Read_ok {F : Nat → Prop} {h : Heap} {s : Sl} {l : List UInt8} {R : Option Addr → Heap → Prop} (hr : RdS h 1 s (cB l)) (h1 : s.n ≤ s.c) (h2 : s.c ≤ 9223372036854775807) (hF : ∀ g, s.blk = some g → F g)
    (hR : ∀ p h', RRep F h' p false l → Ext h.size h h' → h'.size = h.size + 1 → h.size ≤ p → R (some ⟨p, 0, none⟩) h') : C_word_Read s h R := by
  refine A_word_Read ?_
  unfold S_word_Read
  refine alloc (cs := [.slice s.a s.n s.c, .bool false]) fun h' hb he hs => ?_
  exact hR _ h' ⟨_, s, hb, hr.ext' he, h1, h2, hF⟩ he hs (Nat.le_refl _)

theorem word_Fail_ok {F : Nat → Prop} {h : Heap} {p : Nat} {bad : Bool} {l : List UInt8} {R : Bool → Heap → Prop} (hr : RRep F h p bad l) (hR : R bad h) : C_word_Reader_Fail (some ⟨p, 0, none⟩) h R := by
  refine A_word_Reader_Fail ?_
  obtain ⟨t, s, h1, _⟩ := hr
  exact nn (ldF h1 bad rfl hR)
theorem word_Fail_nil {h : Heap} {R : Bool → Heap → Prop} (hR : R true h) : C_word_Reader_Fail none h R := A_word_Reader_Fail hR
theorem word_fail_ok {F : Nat → Prop} {h : Heap} {p : Nat} {bad : Bool} {l : List UInt8} {R : Heap → Prop} (hr : RRep F h p bad l)
    (hR : ∀ h', RRep F h' p true [] → Upd (· = p) h h' → h'.size = h.size → R h') : C_word_Reader_fail (some ⟨p, 0, none⟩) h R := by
  refine A_word_Reader_fail ?_
  obtain ⟨t, s, h1, _⟩ := hr
  refine nn (stF h1 (by simp) fun h2 b2 u2 z2 => nn (stB b2 (by simp) fun h3 b3 u3 z3 => ?_))
  exact hR h3 ⟨t, ⟨none, 0, 0⟩, b3, RdS.nil _ _ _ _, Nat.le_refl _, Nat.zero_le _, fun g hg => by cases hg⟩ (u2.trans u3 (fun _ _ h => h) (fun _ _ h => h)) (by omega)
theorem word_fail_nil {h : Heap} {R : Heap → Prop} (hR : R h) : C_word_Reader_fail none h R := A_word_Reader_fail hR

theorem word_part_ok {F : Nat → Prop} {h : Heap} {p : Nat} {bad : Bool} {l : List UInt8} {n : Int} {R : Sl → Heap → Prop} (hr : RRep F h p bad l) (hF : ¬ F p) (k : Nat) (hn : n = (k : Int))
    (h1 : (bad = true ∨ l.length < k) → ∀ h', RRep F h' p true [] → Upd (· = p) h h' → h'.size = h.size → R ⟨none, 0, 0⟩ h')
    (h2 : bad = false → k ≤ l.length → ∀ s h', RRep F h' p false (l.drop k) → Upd (· = p) h h' → h'.size = h.size → RdS h' 1 s (cB (l.take k)) → s.n = k → (0 < k → s.a ≠ none) → R s h') :
    C_word_Reader_part (some ⟨p, 0, none⟩) n h R := by
  refine A_word_Reader_part ?_
  unfold S_word_Reader_part
  refine word_Fail_ok hr ?_
  cases bad with
  | true => exact word_fail_ok hr fun h' a b c => h1 (.inl rfl) h' a b c
  | false =>
    obtain ⟨t, s, hb, hrd, hnc, hc, hs⟩ := id hr
    have hlen : l.length = s.n := by have := hrd.1; rw [cB_length] at this; omega
    refine nn (ldB hb s rfl (brD (fun hlt => ?_) fun hge => ?_))
    · exact word_fail_ok hr fun h' a b c => h1 (.inr (by omega)) h' a b c
    · subst hn
      refine nn (ldB hb s rfl (cut_rd TB hrd 0 k s.c lo0 (hii rfl) (.inl ⟨rfl, rfl⟩) (by omega) (by omega) (by omega) (by omega) fun s1 r1 n1 c1 b1 => ?_))
      refine nn (ldB hb s rfl (cut_rd TB hrd k s.n s.c (loi rfl) (hi0 _) (.inl ⟨rfl, rfl⟩) (by omega) (by omega) (by omega) (by omega) fun s2 r2 n2 c2 b2 => ?_))
      refine nn (stB hb (by simp) fun h' hb' hu hz => ?_)
      have hk : ∀ g, s.blk = some g → g < h.size → h'[g]? = h[g]? := fun g hg hl => hu.keep g hl fun e => hF (by rw [← e]; exact hs g hg)
      have r1' := r1.keep (h' := h') fun g hg hl => hk g (by rw [← b1]; exact hg) hl
      have r2' := r2.keep (h' := h') fun g hg hl => hk g (by rw [← b2]; exact hg) hl
      simp only [Nat.zero_mul, List.drop_zero, Nat.sub_zero, Nat.mul_one, cB_take, cB_drop] at r1' r2'
      have e2 : (l.drop k).take (s.n - k) = l.drop k := List.take_of_length_le (by rw [List.length_drop]; omega)
      rw [e2] at r2'
      refine h2 rfl (by omega) s1 h' ⟨t, s2, hb', by simpa using r2', by omega, by omega, fun g hg => hs g (by rw [← b2]; exact hg)⟩ hu hz (by simpa using r1') (by simpa using n1) fun h0 => ?_
      intro ha
      have : 0 < (cB (l.take k)).length := by rw [cB_length, List.length_take]; omega
      obtain ⟨g, o, ha', _⟩ := r1'.2 this
      rw [ha] at ha'; cases ha'
end Go.Proofs.Ytfafikomhbedbaa
