/-
  bytes.Clone's contract; bytes' own small rules.
-/
import Derived.Test.YtnognoiaakiepaaRf
import Derived.Test.YtnognoiaakiepaaSBC
namespace Go.Proofs.Ytnognoiaakiepaa
open Go

theorem TB1 : ElemT Try.prog 22 5 1 1 := .of (by kernel_rfl)
theorem rd_b {h : Heap} {s : Sl} {l : List UInt8} (hr : RdS h 1 s (cB l)) : s.n = l.length := by have := hr.1; rw [cB_length] at this; omega
/-- What is read stays, where a step turns none of its blocks; an empty one has none. -/
theorem RdS.upd' {F : Nat → Prop} {h h' : Heap} {sz : Nat} {s : Sl} {xs : List Value} (hr : RdS h sz s xs) (he : Upd F h h') (hb : 0 < xs.length → ∀ g, s.blk = some g → ¬ F g) : RdS h' sz s xs := by
  by_cases hp : 0 < xs.length
  · exact hr.upd he (hb hp)
  · exact ⟨hr.1, fun h0 => absurd h0 hp⟩
theorem bytes_Clone_ok {h : Heap} {b : Sl} {xs : List UInt8} {R : Sl → Heap → Prop} (hb : RdS h 1 b (cB xs)) (hx : xs.length ≤ 1000000000000) (hR : ∀ r h', Own h' 1 r (cB xs) → r.from_ h.size → Ext h.size h h' → R r h') : C_bytes_Clone b h R := by
  refine A_bytes_Clone ?_
  unfold S_bytes_Clone
  have hbn := rd_b hb
  refine brB (fun hn => ?_) fun hn => ?_
  · have ha : b.a = none := by simpa using hn
    have hx0 : xs = [] := by
      apply List.eq_nil_of_length_eq_zero
      apply Nat.eq_zero_of_not_pos
      intro hp
      obtain ⟨g, o, ha', _⟩ := hb.2 (by rw [cB_length]; exact hp)
      rw [ha] at ha'; cases ha'
    subst hx0
    exact hR _ h (Own.nil _ _) (fun g hg => by simp [Sl.blk] at hg) (Ext.refl _ _)
  · refine alloc (cs := cB []) fun h2 b2 e2 z2 => ?_
    have o2 : Own h2 1 ⟨some ⟨h.size, 0, none⟩, 0, 0⟩ (cB []) := Own.full b2 (sz := 1) (n := 0) (by rfl) (by decide)
    refine app TB1 o2 (hb.ext' e2) cB_one (by show (0 + b.n) * 1 ≤ _; omega) (by show 0 + b.n ≤ _; omega) fun s3 h3 o3 n3 u3 b3 => ?_
    have hf3 : s3.from_ h.size := by
      rcases b3 with e | e
      · intro g hg; rw [e] at hg; simp [Sl.blk] at hg; omega
      · intro g hg; have := e g hg; omega
    rw [← cB_append] at o3
    exact hR s3 h3 o3 hf3 (e2.trans (u3.ext (by omega) fun g hg e => by simp [Sl.blk] at e; omega))
/-- Bytes appended to bytes. -/
theorem appB {h : Heap} {s x : Sl} {xs ys : List UInt8} {ty : TypeId} {K : Sl → Heap → Prop} (ho : Own h 1 s (cB xs)) (hx : RdS h 1 x (cB ys)) (hlen : xs.length + ys.length ≤ 140737488355328)
    (hk : ∀ s' h', Own h' 1 s' (cB (xs ++ ys)) → Grw h s h' s' → K s' h') : App Try.prog 22 ty s x h K := by
  have e1 := rd_b ho.rd
  have e2 := rd_b hx
  refine app TB1 ho hx cB_one (by omega) (by omega) fun s' h' o n u b => hk s' h' ?_ ⟨u, b⟩
  rwa [cB_append]
theorem appBo {h : Heap} {s x : Sl} {xs ys : List UInt8} {ty : TypeId} {K : Sl → Heap → Prop} (ho : Own h 1 s (cB xs)) (hx : RdS h 1 x (cB ys)) (hlen : xs.length + ys.length ≤ 140737488355328)
    (hk : ∀ s' h', Own h' 1 s' (cB (xs ++ ys)) → Grw h s h' s' → RdS h' 1 s (cB xs) → K s' h') : App Try.prog 22 ty s x h K := by
  have e1 := rd_b ho.rd
  have e2 := rd_b hx
  refine app_old TB1 ho hx cB_one (by omega) (by omega) fun s' h' o n u b q => hk s' h' ?_ ⟨u, b⟩ q
  rwa [cB_append]
/-- 'append([]byte{}, x...)'. -/
theorem appE {h : Heap} {x : Sl} {ys : List UInt8} {ty : TypeId} {K : Sl → Heap → Prop} (hx : RdS h 1 x (cB ys)) (hlen : ys.length ≤ 140737488355328)
    (hk : ∀ s' h', Own h' 1 s' (cB ys) → s'.from_ h.size → Ext h.size h h' → K s' h') : Alloc h (.cells #[] 5) fun b h1 => App Try.prog 22 ty ⟨some b, 0, 0⟩ x h1 K := by
  refine alloc (cs := cB []) fun h2 b2 e2 z2 => ?_
  have o2 : Own h2 1 ⟨some ⟨h.size, 0, none⟩, 0, 0⟩ (cB []) := Own.full b2 (sz := 1) (n := 0) (by rfl) (by decide)
  refine appB o2 (hx.ext' e2) (by simpa using hlen) fun s3 h3 o3 g3 => hk s3 h3 (by rwa [List.nil_append] at o3) ?_ ?_
  · rcases g3.blk with e | e
    · intro g hg; rw [e] at hg; simp [Sl.blk] at hg; omega
    · intro g hg; have := e g hg; omega
  · exact e2.trans (g3.upd.ext (by omega) fun g hg e => by simp [Sl.blk] at e; omega)
/-- A literal of bytes. -/
theorem litB {h : Heap} (xs : List UInt8) {K : Addr → Heap → Prop} (hk : ∀ h', Own h' 1 ⟨some ⟨h.size, 0, none⟩, xs.length, xs.length⟩ (cB xs) → Ext h.size h h' → h'.size = h.size + 1 → K ⟨h.size, 0, none⟩ h') (hm : xs.length ≤ 9223372036854775807) :
    Alloc h (.cells (cB xs).toArray 5) K :=
  alloc fun h' b e z => hk h' (Own.full b (sz := 1) (n := xs.length) (by rw [cB_length, Nat.mul_one]) hm) e z
theorem cutB {s : Sl} {h : Heap} {l : List UInt8} {lo hi mx : Option Value} {K : Sl → Prop} (hr : RdS h 1 s (cB l)) (a b m : Nat) (hlo : LoIs lo a) (hhi : HiIs hi s.n b)
    (hmx : (mx = none ∧ m = s.c) ∨ (HiIs mx s.c m ∧ hi ≠ none)) (h1 : a ≤ b) (hu : b ≤ l.length) (h2 : b ≤ m) (h3 : m ≤ s.c)
    (hk : ∀ s', RdS h 1 s' (cB ((l.drop a).take (b - a))) → s'.n = b - a → s'.c = m - a → s'.blk = s.blk → K s') : Cut Try.prog 22 s lo hi mx K := by
  refine cut_rd TB1 hr a b m hlo hhi hmx h1 (by rw [rd_b hr]; exact hu) h2 h3 fun s' r n c bl => hk s' ?_ n c bl
  rwa [Nat.mul_one, Nat.mul_one, cB_drop, cB_take] at r
theorem cutBO {s : Sl} {h : Heap} {l : List UInt8} {lo hi mx : Option Value} {K : Sl → Prop} (hr : Own h 1 s (cB l)) (a b m : Nat) (hlo : LoIs lo a) (hhi : HiIs hi s.n b)
    (hmx : (mx = none ∧ m = s.c) ∨ (HiIs mx s.c m ∧ hi ≠ none)) (h1 : a ≤ b) (hu : b ≤ l.length) (h2 : b ≤ m) (h3 : m ≤ s.c)
    (hk : ∀ s', Own h 1 s' (cB ((l.drop a).take (b - a))) → s'.n = b - a → s'.c = m - a → s'.blk = s.blk → K s') : Cut Try.prog 22 s lo hi mx K := by
  refine cut_own TB1 hr a b m hlo hhi hmx h1 (by rw [rd_b hr.rd]; exact hu) h2 h3 fun s' r n c bl => hk s' ?_ n c bl
  rwa [Nat.mul_one, Nat.mul_one, cB_drop, cB_take] at r
end Go.Proofs.Ytnognoiaakiepaa
