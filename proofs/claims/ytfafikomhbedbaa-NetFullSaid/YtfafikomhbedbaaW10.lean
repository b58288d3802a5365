/-
  Layer 9 (net): the laws NetPlays, NetFull.
-/
import Derived.Test.YtfafikomhbedbaaW9
import Derived.Test.YtfafikomhbedbaaW5
import Derived.Test.YtfafikomhbedbaaEnd
namespace Go.Proofs.Ytfafikomhbedbaa
open Go

theorem strB_beq {a b : List UInt8} : (strB a).toList == (strB b).toList ↔ a = b := by rw [strB_toList, strB_toList]; simp
theorem law09_fixed_ok {h : Heap} {R : Bool → Heap → Prop} (hR : ∀ h', Ext h.size h h' → R true h') : C_law09_fixed h R := by
  refine A_law09_fixed ?_
  unfold S_law09_fixed
  refine net_New_string_ok (Nat.le_refl _) fun h1 d n1 dd e1 => ?_
  refine net_Send_string_ok n1 (fun hx => absurd hx (by decide)) fun _ h2 s2 n2 u2 => ?_
  refine net_Send_string_ok n2 (fun hx => absurd hx (by decide)) fun _ h3 s3 n3 u3 => ?_
  refine net_Double_string_ok n3 (fun hx => absurd hx (by decide)) (fun _ _ hx => absurd hx (by decide)) fun k hk hk0 _ h4 s4 n4 u4 => ?_
  obtain rfl : k = 0 := by omega
  refine net_Take_string_ok n4 (fun hx => absurd hx (by simp)) fun k hk hk0 h5 s5 n5 u5 => ?_
  obtain rfl : k = 1 := by omega
  refine net_All_string_ok n5 fun r h6 r6 f6 e6 => ?_
  refine net_Take_string_ok (n5.ext e6) (fun _ => ?_) fun k hk hk0 => absurd hk0 (by simp at hk; omega)
  refine net_Take_int_nil (net_Clear_int_nil ?_)
  have E : Ext h.size h h6 := ((((e1.trans (u2.ext n1)).trans (u3.ext n2)).trans (u4.ext n3)).trans (u5.ext n4)).trans (e6.mono n5.le)
  have hn : r.n = 2 := by have := r6.1; rw [cS_length] at this; simpa using this.symm
  refine brY rfl (brY rfl (brY rfl (brY (by show ((⟨#[98]⟩ : ByteArray).toList == (⟨#[98]⟩ : ByteArray).toList) = true; simp) (brY rfl (brY (by rw [hn]; rfl) ?_)))))
  refine ixcS r6 1 rfl (by simp) (brY (by show ((⟨#[97]⟩ : ByteArray).toList == (⟨#[97]⟩ : ByteArray).toList) = true; simp) (brY rfl (brY rfl (net_Send_int_nil (brY rfl (net_Len_int_nil (net_All_int_nil ?_)))))))
  exact hR _ E

/-! ## NetPlays -/
structure NAct where
  kind : Int
  x : Int
  i : Int
def NAct.cells (a : NAct) : List Value := [.int .u8 a.kind, .int .i64 a.x, .int .i64 a.i]
/-- The net and the plain row, side by side, apart in memory. -/
structure NB (B : Nat) (h₀ h : Heap) (d : Nat) (s row : Sl) (l m : List Int) : Prop where
  n : NRep B h d s (cI l)
  o : Own h 1 row (cI m)
  rB : row.from_ B
  sd : row.blk ≠ some d
  ss : ∀ g, row.blk = some g → s.blk ≠ some g
  e : Ext B h₀ h
theorem NB.ext {B : Nat} {h₀ h h' : Heap} {d : Nat} {s row : Sl} {l m : List Int} (b : NB B h₀ h d s row l m) (he : Ext h.size h h') : NB B h₀ h' d s row l m :=
  ⟨b.n.ext he, b.o.ext' he, b.rB, b.sd, b.ss, b.e.trans (he.mono b.n.le)⟩
theorem NB.net {B : Nat} {h₀ h h' : Heap} {d : Nat} {s s' row : Sl} {l l' m : List Int} (b : NB B h₀ h d s row l m) (hn : NRep B h' d s' (cI l')) (hu : NUpd h d s h' s') : NB B h₀ h' d s' row l' m :=
  ⟨hn, b.o.upd hu.1 (fun g hg x => by
      rcases x with rfl | x
      · exact b.sd hg
      · exact b.ss g hg x), b.rB, b.sd, fun g hg x => by
      rcases hu.2 with e | e
      · exact b.ss g hg (by rw [← e]; exact x)
      · have := e g x; have := b.o.below g hg; omega, b.e.trans (hu.ext b.n)⟩
theorem NRep.sBelow {B : Nat} {h : Heap} {d : Nat} {s : Sl} {xs : List Value} (hd : NRep B h d s xs) : s.below h.size := hd.2.1.below
theorem NRep.dlt {B : Nat} {h : Heap} {d : Nat} {s : Sl} {xs : List Value} (hd : NRep B h d s xs) : d < h.size := by
  obtain ⟨⟨t, h1⟩, _⟩ := hd
  exact h1.lt
theorem NB.row {B : Nat} {h₀ h h' : Heap} {d : Nat} {s row row' : Sl} {l m m' : List Int} (b : NB B h₀ h d s row l m) (ho : Own h' 1 row' (cI m')) (hu : Upd (fun g => row.blk = some g) h h') (hb : row'.blk = row.blk ∨ row'.from_ h.size) : NB B h₀ h' d s row' l m' := by
  refine ⟨b.n.keep hu (fun x => b.sd x) (fun g hg x => b.ss g x hg), ho, ?_, ?_, ?_, b.e.trans (hu.ext b.n.le fun g hg x => by have := b.rB g x; omega)⟩
  · rcases hb with e | e
    · intro g hg; exact b.rB g (by rw [← e]; exact hg)
    · intro g hg; have := e g hg; have := b.n.le; omega
  · rcases hb with e | e
    · rw [e]; exact b.sd
    · intro x; have := e d x; have := b.n.dlt; omega
  · rcases hb with e | e
    · intro g hg; exact b.ss g (by rw [← e]; exact hg)
    · intro g hg x; have := e g hg; have := b.n.sBelow g x; omega
/-- Another row, made anew. -/
theorem NB.anew {B : Nat} {h₀ h h' : Heap} {d : Nat} {s row row' : Sl} {l m m' : List Int} (b : NB B h₀ h d s row l m) (he : Ext h.size h h') (ho : Own h' 1 row' (cI m')) (hf : row'.from_ h.size) : NB B h₀ h' d s row' l m' := by
  have b' := b.ext he
  refine ⟨b'.n, ho, fun g hg => by have := hf g hg; have := b.n.le; omega, fun x => by have := hf d x; have := b.n.dlt; omega, fun g hg x => by have := hf g hg; have := b.n.sBelow g x; omega, b'.e⟩

theorem law09_NetPlays_ok {l : Sl} {acts : List NAct} {h : Heap} (wl : Arg h 3 l (acts.flatMap NAct.cells) ∧ l.below h.size ∧ ∀ a ∈ acts, 0 ≤ a.kind ∧ a.kind ≤ 255) :
    C_law09_NetPlays l h fun r h' => r = true ∧ Ext h.size h h' := by
  obtain ⟨⟨hl, _, _, _⟩, hlb, hk⟩ := wl
  refine A_law09_NetPlays ?_
  unfold S_law09_NetPlays
  refine law09_fixed_ok fun h0 e0 => brN rfl ?_
  have hln : acts.length = l.n := by
    have := hl.1
    rw [flat_len NAct.cells 3 (fun _ => rfl)] at this
    omega
  refine brD (fun _ => ⟨rfl, e0⟩) fun hl200 => ?_
  refine net_New_int_ok (B := h.size) e0.1 fun h1 d n1 dd e1 => ?_
  have E1 : Ext h.size h h1 := e0.trans (e1.mono e0.1)
  refine loop2 (s1 := .one .sl) (s2 := .one (.int .i64)) (fun (row : Sl) (x : Int) h2 => ∃ (k : Nat) (s : Sl) (m : List Int), k ≤ acts.length ∧ x = k ∧ NB h.size h h2 d s row m m ∧ m.length ≤ k) (fun _ (x : Int) _ => (acts.length - x).toNat)
    ⟨0, ⟨none, 0, 0⟩, [], Nat.zero_le _, rfl, ⟨n1, Own.nil _ _, (fun g hg => by simp [Sl.blk] at hg), (by simp [Sl.blk]), (fun g hg => by simp [Sl.blk] at hg), E1⟩, Nat.le_refl _⟩ fun _ (row : Sl) (x : Int) h2 hI => ?_
  obtain ⟨k, s, m, hk1, rfl, hB, hm⟩ := hI
  refine brD (fun hc => ?_) fun hc => ⟨rfl, hB.e⟩
  have hk2 : k < acts.length := by omega
  refine ixF (f := NAct.cells) (fun _ => rfl) (hl.ext hB.e hlb) k rfl hk2 (by decide) fun g o hg hce => ?_
  generalize ha : acts[k] = a at hce
  have hkd := hk a (by rw [← ha]; exact List.getElem_mem hk2)
  refine ldC0 hce (by decide) a.kind rfl (ldC hce 1 (by decide) a.x rfl (ldC hce 2 (by decide) a.i rfl ?_))
  refine alloc (cs := [.int .u8 0, .int .i64 0, .int .i64 0]) fun h3 b3 e3 z3 => ?_
  refine stB b3 (by simp) fun h4 b4 u4 z4 => stF b4 (by simp) fun h5 b5 u5 z5 => stF b5 (by simp) fun h6 b6' u6 z6 => ?_
  have b6 : Blk h6 h2.size 63 a.cells := b6'
  have e6 : Ext h2.size h2 h6 := e3.trans ((two (two u4 u5) u6).ext1 (Nat.le_refl _) (by omega))
  have hB6 := hB.ext e6
  have hnd : ¬ h2.size = d := by have := hB.n.dlt; omega
  have hns : s.blk ≠ some h2.size := fun x => by have := hB.n.sBelow _ x; omega
  have hrn := own_n1 hB.o
  rw [cI_length] at hrn
  refine join1 (s1 := .one .bool) (fun (in_ : Bool) h7 => h7 = h6 ∧ in_ = decide (0 ≤ a.i ∧ a.i < m.length)) (fun _ (in_ : Bool) h7 hJ => ?_) ?_
  · obtain ⟨rfl, rfl⟩ := hJ
    refine join1 (s1 := .one (.int .i64)) (fun (want : Int) h8 => h8 = h7 ∧ want = if 0 ≤ a.i ∧ a.i < m.length then 0 else 6) (fun _ (want : Int) h8 hJ => ?_) ?_
    · obtain ⟨rfl, rfl⟩ := hJ
      refine ldB b6 a.kind rfl (nz (by decide) ?_)
      refine join1 (s1 := .one .sl) (fun (row1 : Sl) h9 => ∃ (s' : Sl) (m' : List Int), NB h.size h h9 d s' row1 m' m' ∧ m'.length ≤ k + 1) (fun _ (row1 : Sl) h9 hJ => ?_) ?_
      · obtain ⟨s', m', hB9, hm'⟩ := hJ
        have hrn9 := own_n1 hB9.o
        rw [cI_length] at hrn9
        refine net_All_int_ok hB9.n fun r h10 r10 f10 e10 => ?_
        have hrn10 := rd_n1 r10
        rw [cI_length] at hrn10
        refine brN (by rw [hrn10, hrn9]; simp) ?_
        have hB10 := hB9.ext e10
        refine net_Len_int_ok hB10.n (brN (by rw [hrn9]; simp) ?_)
        refine loop1 (s1 := .one (.int .i64)) (fun (y : Int) h11 => h11 = h10 ∧ ∃ j : Nat, j ≤ m'.length ∧ y = j) (fun (y : Int) _ => (m'.length - y).toNat) ⟨rfl, 0, Nat.zero_le _, rfl⟩ fun _ (y : Int) h11 hI => ?_
        obtain ⟨rfl, j, hj, rfl⟩ := hI
        refine brD (fun hc2 => ?_) fun hc2 => ?_
        · have hj2 : j < m'.length := by omega
          refine ixcI r10 j rfl hj2 (ixcI hB10.o.rd j rfl hj2 (brN (by simp) ?_))
          rw [w64 (by omega) (by omega)]
          exact ⟨⟨rfl, j + 1, by omega, by omega⟩, by omega⟩
        · rw [w64 (by omega) (by omega)]
          exact ⟨⟨k + 1, s', m', by omega, by omega, hB10, hm'⟩, by omega⟩
      · rw [rem_nonneg hkd.1]
        refine br beq_iff_eq (fun c0 => ?_) fun c0 => br beq_iff_eq (fun c1 => ?_) fun c1 => br beq_iff_eq (fun c2 => ?_) fun c2 => br beq_iff_eq (fun c3 => ?_) fun c3 => ?_
        · refine ldF b6 a.x rfl (net_Send_int_ok hB6.n (fun hx => by omega) fun _ h9 s9 n9 u9 => brN rfl ?_)
          have hB9 := hB6.net n9 u9
          have b9 := b6.upd u9.1 fun x => x.elim hnd hns
          refine ldF b9 a.x rfl (alloc (cs := cI [a.x]) fun h10 b10 e10 z10 => ?_)
          have hB10 := hB9.ext e10
          have r10 : RdS h10 1 ⟨some ⟨h9.size, 0, none⟩, 1, 1⟩ (cI [a.x]) := (Own.full b10 (sz := 1) (n := 1) (by rfl) (by decide)).rd
          refine app TI hB10.o r10 cI_one (by show (row.n + 1) * 8 ≤ _; omega) (by show row.n + 1 ≤ _; omega) fun s11 h11 o11 n11 u11 b11 => ?_
          rw [← cI_append] at o11
          exact ⟨s9, m ++ [a.x], hB10.row o11 u11 b11, by rw [List.length_append]; simp; omega⟩
        · refine ldF b6 a.i rfl (net_Take_int_ok hB6.n (fun hx => ?_) fun j hj hij h9 s9 n9 u9 => ?_)
          · rw [if_neg (by omega), decide_eq_false (by omega)]
            refine brN rfl (brF (brF ?_))
            exact ⟨s, m, hB6, by omega⟩
          · have hin : 0 ≤ a.i ∧ a.i < m.length := by omega
            have hB9 := hB6.net n9 u9
            have b9 := b6.upd u9.1 fun x => x.elim hnd hns
            have hrow9 := hB9.o
            rw [if_pos hin, decide_eq_true hin]
            refine brN rfl (brT (ldF b9 a.i rfl (ixcI hB9.o.rd j hij hj (brN (by simp) (brT (ldF b9 a.i rfl ?_))))))
            refine cut_rd TI hB9.o.rd 0 j row.c lo0 (hii hij) (.inl ⟨rfl, rfl⟩) (by omega) (by omega) (by have := hB9.o.2.1; omega) (Nat.le_refl _) fun q1 r1 qn1 _ _ => ldF b9 a.i rfl ?_
            rw [w64 (by omega) (by omega)]
            refine cut_rd TI hB9.o.rd (j + 1) row.n row.c (loi (by omega)) (hi0 _) (.inl ⟨rfl, rfl⟩) (by omega) (Nat.le_refl _) hB9.o.2.1 (Nat.le_refl _) fun q2 r2 qn2 _ _ => ?_
            rw [Nat.zero_mul, List.drop_zero, Nat.sub_zero, Nat.mul_one, cI_take] at r1
            rw [Nat.mul_one, Nat.mul_one, cI_drop, cI_take, List.take_of_length_le (by rw [List.length_drop]; omega)] at r2
            refine alloc (cs := cI []) fun h10 b10 e10 z10 => ?_
            have b9' := b9.upd (e10.upd fun _ => False) (fun x => x)
            refine ⟨ldF b9' a.i rfl rfl, ldF b9' a.i rfl rfl, ?_⟩
            have o10 : Own h10 1 ⟨some ⟨h9.size, 0, none⟩, 0, 0⟩ (cI []) := Own.full b10 (sz := 1) (n := 0) (by rfl) (by decide)
            refine app TI o10 (r1.ext' e10) cI_one (by show (0 + q1.n) * 8 ≤ _; omega) (by show 0 + q1.n ≤ _; omega) fun s11 h11 o11 n11 u11 b11 => ?_
            have e11 : Ext h9.size h9 h11 := e10.trans (u11.ext (by omega) fun g hg e => by simp [Sl.blk] at e; omega)
            have f11 : s11.from_ h9.size := by
              rcases b11 with e | e
              · intro g hg; rw [e] at hg; simp [Sl.blk] at hg; omega
              · intro g hg; have := e g hg; omega
            have hlt9 : h2.size < h9.size := b9.lt
            have b9'' := b9.upd (e11.upd fun _ => False) (fun x => x)
            refine ⟨ldF b9'' a.i rfl rfl, ?_⟩
            have n11' : s11.n = 0 + q1.n := n11
            refine app TI o11 (r2.ext' e11) cI_one (by omega) (by omega) fun s12 h12 o12 n12 u12 b12 => ?_
            have e12 : Ext h9.size h9 h12 := e11.trans (u12.ext e11.1 fun g hg e => by have := f11 g e; omega)
            have f12 : s12.from_ h9.size := by
              rcases b12 with e | e
              · intro g hg; exact f11 g (by rw [← e]; exact hg)
              · intro g hg; have := e g hg; have := e11.1; omega
            rw [← cI_append, ← cI_append, List.nil_append] at o12
            exact ⟨s9, m.take j ++ m.drop (j + 1), hB9.anew e12 o12 f12, by rw [List.length_append, List.length_take, List.length_drop]; omega⟩
        · refine ldF b6 a.i rfl (net_Double_int_ok hB6.n (fun hx => ?_) (fun _ _ hx => by omega) fun j hj hij _ h9 s9 n9 u9 => ?_)
          · rw [if_neg (by omega), decide_eq_false (by omega)]
            refine brN rfl (brF ?_)
            exact ⟨s, m, hB6, by omega⟩
          · have hin : 0 ≤ a.i ∧ a.i < m.length := by omega
            have hB9 := hB6.net n9 u9
            have b9 := b6.upd u9.1 fun x => x.elim hnd hns
            rw [if_pos hin, decide_eq_true hin]
            refine brN rfl (brT (ldF b9 a.i rfl (ixcI hB9.o.rd j hij hj (alloc (cs := cI [m[j]]) fun h10 b10 e10 z10 => ?_))))
            have hB10 := hB9.ext e10
            have r10 : RdS h10 1 ⟨some ⟨h9.size, 0, none⟩, 1, 1⟩ (cI [m[j]]) := (Own.full b10 (sz := 1) (n := 1) (by rfl) (by decide)).rd
            refine app TI hB10.o r10 cI_one (by show (row.n + 1) * 8 ≤ _; omega) (by show row.n + 1 ≤ _; omega) fun s11 h11 o11 n11 u11 b11 => ?_
            rw [← cI_append] at o11
            exact ⟨s9, m ++ [m[j]], hB10.row o11 u11 b11, by rw [List.length_append]; simp; omega⟩
        · refine net_Clear_int_ok hB6.n fun h9 s9 n9 u9 => ?_
          have hB9 := hB6.net n9 u9
          exact ⟨s9, [], hB9.anew (Ext.refl _ _) (Own.nil _ _) (fun g hg => by simp [Sl.blk] at hg), by simp⟩
        · exact ⟨s, m, hB6, by omega⟩
    · refine brB (fun hn => ⟨rfl, ?_⟩) fun hn => ⟨rfl, ?_⟩
      · rw [if_neg (of_decide_eq_false (by simpa only [Bool.not_eq_true'] using hn))]
      · rw [if_pos (of_decide_eq_true (by simpa only [Bool.not_eq_false'] using hn))]
  · refine ldF b6 a.i rfl (brD (fun h0' => ldF b6 a.i rfl (let_ ⟨rfl, ?_⟩)) fun h0' => ⟨rfl, ?_⟩)
    · rw [hrn]; rw [decide_eq_decide]; omega
    · rw [eq_comm, decide_eq_false_iff_not]; omega

/-! ## NetFull -/
theorem law09_NetFull_ok {more : Int} {h : Heap} (w0 : 0 ≤ more ∧ more ≤ 255) : C_law09_NetFull more h fun r h' => r = true ∧ Ext h.size h h' := by
  refine A_law09_NetFull ?_
  unfold S_law09_NetFull
  refine law09_fixed_ok fun h0 e0 => brN rfl ?_
  refine net_New_int_ok (B := h.size) e0.1 fun h1 d n1 dd e1 => let_ ?_
  have E1 : Ext h.size h h1 := e0.trans (e1.mono e0.1)
  rw [w64 (n := more) (by omega) (by omega), w64 (n := 400 + more) (by omega) (by omega)]
  refine loop1 (s1 := .one (.int .i64)) (fun (x : Int) h2 => ∃ (k : Nat) (s : Sl) (m : List Int), x = k ∧ (k : Int) ≤ 400 + more ∧ NRep h.size h2 d s (cI m) ∧ Ext h.size h h2 ∧ m.length = min k 512 ∧ ∀ (h0 : 0 < m.length), m[0] = 0) (fun (x : Int) _ => (400 + more - x).toNat)
    ⟨0, ⟨none, 0, 0⟩, [], rfl, by omega, n1, E1, rfl, fun h0 => absurd h0 (by decide)⟩ fun _ (x : Int) h2 hI => ?_
  obtain ⟨k, s, m, rfl, hk, hN, hE, hm, hz⟩ := hI
  refine brD (fun hc => ?_) fun hc => ?_
  · rw [w64 (by omega) (by omega)]
    refine net_Send_int_ok hN (fun hf => ?_) fun hf h3 s3 n3 u3 => ?_
    · have hd : decide ((k : Int) < 512) = false := decide_eq_false (by omega)
      rw [hd]
      refine brN rfl (brY rfl (brN rfl ?_))
      exact ⟨⟨k + 1, s, m, by omega, by omega, hN, hE, by omega, hz⟩, by omega⟩
    · have hd : decide ((k : Int) < 512) = true := decide_eq_true (by omega)
      rw [hd]
      refine brN rfl (brN rfl ?_)
      refine ⟨⟨k + 1, s3, m ++ [(k : Int)], by omega, by omega, n3, hE.trans (u3.ext hN), by rw [List.length_append]; simp; omega, fun _ => ?_⟩, by omega⟩
      by_cases h0m : 0 < m.length
      · rw [List.getElem_append_left h0m]; exact hz h0m
      · have : m = [] := List.eq_nil_of_length_eq_zero (by omega)
        subst this
        simp only [List.length_nil] at hm
        simp; omega
  · have hkk : (k : Int) = 400 + more := by omega
    have h0m : 0 < m.length := by omega
    refine net_Len_int_ok hN (brN ?_ ?_)
    · rw [bne_eq_false_iff_eq]; split <;> omega
    · refine net_Double_int_ok hN (fun hx => by omega) (fun _ _ hf => ?_) fun j hj hj0 hf h3 s3 n3 u3 => ?_
      · refine brN (by rw [show decide (400 + more ≥ 512) = true from decide_eq_true (by omega)]; rfl) ?_
        refine net_Take_int_ok hN (fun hx => by omega) fun j hj hj0 h4 s4 n4 u4 => brY rfl (brY ?_ ?_)
        · obtain rfl : j = 0 := by omega
          rw [hz h0m]; rfl
        · refine net_Send_int_ok n4 (fun hf => by rw [List.length_append, List.length_take, List.length_drop] at hf; omega) fun _ h5 s5 n5 u5 => ⟨rfl, (hE.trans (u4.ext hN)).trans (u5.ext n4)⟩
      · refine brN (by rw [show decide (400 + more ≥ 512) = false from decide_eq_false (by omega)]; rfl) ?_
        refine net_Take_int_ok n3 (fun hx => by rw [List.length_append] at hx; omega) fun j hj hj0 h4 s4 n4 u4 => brY rfl (brY ?_ ?_)
        · obtain rfl : j = 0 := by omega
          rw [List.getElem_append_left h0m, hz h0m]; rfl
        · refine net_Send_int_ok n4 (fun hf => by rw [List.length_append, List.length_take, List.length_drop, List.length_append] at hf; simp at hf; omega) fun _ h5 s5 n5 u5 => ⟨rfl, ((hE.trans (u3.ext hN)).trans (u4.ext n3)).trans (u5.ext n4)⟩

/-! ## The arguments -/
section
open Go.ChangeShapes Go.WideShapes
variable {H : Type} {enc : TypeId × Value → H} {w : World} {b0 : Nat} {v : Value} {d : DataW H} {ps : List MemPlace}
set_option maxRecDepth 100000 in
theorem arg_act09 (hval : Value.okWide Try.prog w .any b0 58 v) (hd : DataW.Trod enc Try.prog w 0 (fun _ => true) true 58 v d ps) :
    ∃ (s : Sl) (acts : List NAct), v = s.v ∧ Arg w.heap 3 s (acts.flatMap NAct.cells) ∧ s.below w.heap.size ∧ ∀ a ∈ acts, 0 ≤ a.kind ∧ a.kind ≤ 255 := by
  have he : El enc Try.prog w 63 fun cs => ∃ a : NAct, cs = a.cells ∧ (0 ≤ a.kind ∧ a.kind ≤ 255) := by
    refine el_st Try.underlying63 fun cs hl hf => ?_
    have hl3 : cs.length = 3 := hl.trans (by kernel_rfl)
    match cs, hl3 with
    | [c0, c1, c2], _ =>
      obtain ⟨_, _, h0⟩ := hf 0 _ rfl
      obtain ⟨_, _, h1⟩ := hf 1 _ rfl
      obtain ⟨_, _, h2⟩ := hf 2 _ rfl
      obtain ⟨n0, e0, w0⟩ := el_int Try.underlying5 _ _ _ h0
      obtain ⟨n1, e1, w1⟩ := el_int Try.underlying3 _ _ _ h1
      obtain ⟨n2, e2, w2⟩ := el_int Try.underlying3 _ _ _ h2
      have e0' : [c0] = [Value.int .u8 n0] := e0
      have e1' : [c1] = [Value.int .i64 n1] := e1
      have e2' : [c2] = [Value.int .i64 n2] := e2
      simp only [List.cons.injEq, and_true] at e0' e1' e2'
      subst e0' e1' e2'
      exact ⟨⟨n0, n1, n2⟩, rfl, wf_u8 w0⟩
  obtain ⟨s, css, h1, _, h3, h4, h5⟩ := arg_sl (sz := 3) Try.underlying58 (by kernel_rfl) (by decide) he hval hd
  obtain ⟨acts, h6, h7, _⟩ := cells_of NAct.cells _ fun c hc => (h3 c hc).2
  exact ⟨s, acts, h1, h6 ▸ h4, h5, h7⟩
end
end Go.Proofs.Ytfafikomhbedbaa
