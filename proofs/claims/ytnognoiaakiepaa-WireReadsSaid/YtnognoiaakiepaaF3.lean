/-
  Layer 3 (frame): all frames of a text of bytes, by the program and by the document.
-/
import Derived.Test.YtnognoiaakiepaaF2
namespace Go.Proofs.Ytnognoiaakiepaa
open Go

theorem TBB : ElemT Try.prog 108 22 1 24 := .of (by kernel_rfl)
theorem allM_step {l : List UInt8} {f : Nat} {ps : List (List UInt8)} {a : Nat} (h : a < l.length) (hf : l.length < f + a) : allM l f ps a =
    if (takeM (l.drop a)).2.2 ≠ 0 then (ps, a, (takeM (l.drop a)).2.2) else allM l (f - 1) (ps ++ [(takeM (l.drop a)).1]) (a + (takeM (l.drop a)).2.1) := by
  obtain ⟨f, rfl⟩ : ∃ g, f = g + 1 := ⟨f - 1, by omega⟩
  rw [allM, if_pos h]; rfl
theorem allM_done {l : List UInt8} {f : Nat} {ps : List (List UInt8)} {a : Nat} (h : ¬ a < l.length) : allM l f ps a = (ps, a, 0) := by
  cases f with
  | zero => rfl
  | succ f => rw [allM, if_neg h]
def BAx (l : List BA) : List (List UInt8) := l.map (·.xs)
/-- Bytes in a row, as a call hands them back. -/
def OutB (B : Nat) (h : Heap) (out : Sl) (bs : List BA) : Prop := Own h 1 out (eBA.fl bs) ∧ out.from_ B ∧ ∀ a ∈ bs, RdS h 1 a.s (cB a.xs) ∧ a.s.from_ B ∧ (a.xs ≠ [] → ∀ g, a.s.blk = some g → out.blk ≠ some g) ∧ a.s.n ≤ a.s.c
theorem OutB.ext {B : Nat} {h h' : Heap} {out : Sl} {bs : List BA} (ho : OutB B h out bs) (he : Ext h.size h h') : OutB B h' out bs :=
  ⟨ho.1.ext' he, ho.2.1, fun a ha => ⟨(ho.2.2 a ha).1.ext' he, (ho.2.2 a ha).2⟩⟩
theorem OutB.nil (B : Nat) (h : Heap) : OutB B h ⟨none, 0, 0⟩ [] := ⟨Own.nil _ _, (fun g hg => by simp [Sl.blk] at hg), fun a ha => by cases ha⟩
/-- One more. -/
theorem OutB.app {B : Nat} {h : Heap} {out : Sl} {bs : List BA} {r : Sl} {xs : List UInt8} {ty : TypeId} {K : Sl → Heap → Prop} (ho : OutB B h out bs) (hB : B ≤ h.size) (hr : RdS h 1 r (cB xs)) (hf : r.from_ B) (hd : xs ≠ [] → ∀ g, r.blk = some g → out.blk ≠ some g) (hrc : r.n ≤ r.c)
    (hlen : bs.length ≤ 1000000000000) (hk : ∀ s' h', OutB B h' s' (bs ++ [⟨r, xs⟩]) → Grw h out h' s' → Ext B h h' → K s' h') :
    Alloc h (.cells #[.slice r.a r.n r.c] 22) fun b h1 => App Try.prog 108 ty out ⟨some b, 1, 1⟩ h1 K := by
  obtain ⟨o, f, ha⟩ := ho
  refine app1 (E := eBA) TBB ⟨r, xs⟩ o (by omega) (by omega) fun s' h' o' g' => hk s' h' ⟨o', g'.from_ f hB, fun a hm => ?_⟩ g' (g'.ext f hB)
  have one : ∀ (s : Sl) (ys : List UInt8), RdS h 1 s (cB ys) → (ys ≠ [] → ∀ g, s.blk = some g → out.blk ≠ some g) → RdS h' 1 s (cB ys) ∧ (ys ≠ [] → ∀ g, s.blk = some g → s'.blk ≠ some g) := fun s ys hs hd => by
    refine ⟨hs.upd' g'.upd fun h0 g hg => hd (fun e => by rw [e] at h0; simp [cB] at h0) g hg, fun h0 g hg e => ?_⟩
    rcases g'.blk with e2 | e2
    · exact hd h0 g hg (by rw [← e2]; exact e)
    · have := e2 g e
      have := hs.belowB h0 g hg
      omega
  rcases List.mem_append.1 hm with hm | hm
  · obtain ⟨a1, a2, a3, a4⟩ := ha a hm
    obtain ⟨b1, b2⟩ := one _ _ a1 a3
    exact ⟨b1, a2, b2, a4⟩
  · simp only [List.mem_singleton] at hm
    subst hm
    obtain ⟨b1, b2⟩ := one _ _ hr hd
    exact ⟨b1, hf, b2, hrc⟩
theorem all_loop {h : Heap} {b : Sl} {l : List UInt8} {R : Sl → Int → Int → Heap → Prop} (T : Sl → Heap → (Sl → Int → Int → Heap → Prop) → Prop)
    (hT : ∀ (s : Sl) (h : Heap) (l : List UInt8) (R : Sl → Int → Int → Heap → Prop), RdS h 1 s (cB l) → s.n ≤ s.c → l.length ≤ 1000000000000 →
      (∀ r h', Own h' 1 r (cB (takeM l).1) → r.from_ h.size → Ext h.size h h' → R r ((takeM l).2.1 : Nat) (takeM l).2.2 h') → T s h R)
    (hb : RdS h 1 b (cB l)) (hbc : b.n ≤ b.c) (hl : l.length ≤ 1000000000)
    (hR : ∀ out bs h', OutB h.size h' out bs → BAx bs = (allM l (l.length + 1) [] 0).1 → Ext h.size h h' → R out ((allM l (l.length + 1) [] 0).2.1 : Nat) (allM l (l.length + 1) [] 0).2.2 h') :
    Loop [.one .sl, .one (.int .i64)] (fun _ (out : Sl) (at_ : Int) h_ go =>
    (bif decide (at_ < (b.n : Int)) then
      Cut Try.prog 22 b (some (.int .i64 at_)) none none fun s =>
      T s h_ fun (r : Sl) (r1 : Int) (r2 : Int) h_1 =>
      (bif r2 != 0 then
        R out at_ r2 h_1
      else
        Alloc h_1 (.cells #[.slice r.a r.n r.c] 22) fun b1 h_2 =>
        App Try.prog 108 108 out ⟨some b1, 1, 1⟩ h_2 fun s1 h_3 =>
        Let (IntKind.i64.wrap (at_ + r1) : Int) fun at_1 =>
        go s1 at_1 h_3
      )
    else
      R out at_ 0 h_
    )
    ) (⟨none, 0, 0⟩, 0, ()) h := by
  have hn := rd_b hb
  refine loop2 (s1 := .one .sl) (s2 := .one (.int .i64)) (fun (out : Sl) (x : Int) h1 => ∃ (bs : List BA) (a f : Nat), x = a ∧ a ≤ l.length ∧ OutB h.size h1 out bs ∧ Ext h.size h h1 ∧ bs.length ≤ a ∧ l.length < f + a ∧ allM l f (BAx bs) a = allM l (l.length + 1) [] 0) (fun _ (x : Int) _ => (l.length - x).toNat)
    ⟨[], 0, l.length + 1, rfl, by omega, OutB.nil _ _, Ext.refl _ _, Nat.zero_le _, by omega, rfl⟩ fun _ (out : Sl) (x : Int) h1 hI => ?_
  obtain ⟨bs, a, f, rfl, ha, ho, he, hbs, hf, hm⟩ := hI
  refine brD (fun hc => ?_) fun hc => ?_
  · have ha2 : a < l.length := by omega
    rw [allM_step ha2 hf] at hm
    refine cutB (hb.ext' he) a l.length b.c (loi rfl) (.inl ⟨rfl, by omega⟩) (.inl ⟨rfl, rfl⟩) (by omega) (Nat.le_refl _) (by omega) (Nat.le_refl _) fun s r n c bl => ?_
    rw [List.take_of_length_le (by rw [List.length_drop]; omega)] at r
    refine hT s h1 (l.drop a) _ r (by omega) (by rw [List.length_drop]; omega) fun r2 h2 o2 f2 e2 => ?_
    refine brB (fun hne => ?_) fun hz => ?_
    · rw [if_pos (by simpa using hne)] at hm
      have := hR out bs h2 (ho.ext e2) (by rw [← hm]) (he.trans (e2.mono he.1))
      rw [← hm] at this
      exact this
    · have hz' : (takeM (l.drop a)).2.2 = 0 := by simpa using hz
      rw [if_neg (by rw [hz']; exact fun x => x rfl)] at hm
      obtain ⟨t1, t2, t3, t4⟩ := takeM_ok hz'
      rw [List.length_drop] at t2
      have hle := he.1
      refine (ho.ext e2).app (Nat.le_trans hle e2.1) o2.rd (fun g hg => by have := f2 g hg; omega) (fun _ g hg e => by have := f2 g hg; have := ho.1.below g e; omega) o2.2.1 (by omega) fun s3 h3 o3 g3 e3 => let_ ?_
      rw [w64 (by omega) (by omega)]
      refine ⟨⟨_, a + (takeM (l.drop a)).2.1, f - 1, by omega, by omega, o3, (he.trans (e2.mono hle)).trans e3, by rw [List.length_append]; simp; omega, by omega, ?_⟩, by omega⟩
      rw [← hm]
      simp [BAx]
  · have : a = l.length := by omega
    subst this
    rw [allM_done (by omega)] at hm
    have := hR out bs h1 ho (by rw [← hm]) he
    rw [← hm] at this
    exact this
theorem frame_All_ok {h : Heap} {b : Sl} {l : List UInt8} {R : Sl → Int → Int → Heap → Prop} (hb : RdS h 1 b (cB l)) (hbc : b.n ≤ b.c) (hl : l.length ≤ 1000000000)
    (hR : ∀ out bs h', OutB h.size h' out bs → BAx bs = (allM l (l.length + 1) [] 0).1 → Ext h.size h h' → R out ((allM l (l.length + 1) [] 0).2.1 : Nat) (allM l (l.length + 1) [] 0).2.2 h') : C_frame_All b h R := by
  refine A_frame_All ?_
  unfold S_frame_All
  exact all_loop (fun s h R => C_frame_Take s h R) (fun s h l R => frame_Take_ok) hb hbc hl hR
end Go.Proofs.Ytnognoiaakiepaa
