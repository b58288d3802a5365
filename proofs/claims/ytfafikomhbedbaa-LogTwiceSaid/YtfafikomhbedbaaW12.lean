/-
  Layer 7 (log): the laws LogFull, LogTwice over the heap alone.
-/
import Derived.Test.YtfafikomhbedbaaW11
import Derived.Test.YtfafikomhbedbaaEnd
namespace Go.Proofs.Ytfafikomhbedbaa
open Go

theorem LRep.bext {B : Nat} {h h' : Heap} {d : Nat} {s : Sl} {xs : List LE} (hd : LRep B h d s xs) (he : Ext h.size h h') : LRep B h' d s xs := hd.ext he
theorem fallsM_take : ∀ (l : List LE) (t : Int) (k : Nat), fallsM t l = false → fallsM t (l.take k) = false
  | [], _, k, _ => by cases k <;> rfl
  | e :: l, t, 0, _ => rfl
  | e :: l, t, k + 1, h => by
    rw [List.take_succ_cons, fallsM]
    rw [fallsM] at h
    split
    · rename_i hc; rw [if_pos hc] at h; cases h
    · rename_i hc; rw [if_neg hc] at h; exact fallsM_take l _ k h
theorem knownM_take : ∀ (l : List LE) (k : Nat), k ≤ l.length → knownM l (l.take k) = k
  | l, 0, _ => by cases l <;> simp [knownM]
  | e :: l, k + 1, h => by
    rw [List.take_succ_cons, knownM, if_pos rfl, knownM_take l k (by simpa using h)]
theorem knownM_nil (l : List LE) : knownM [] l = 0 := by simp [knownM]
theorem fallsM_rep (t u : Int) (h : t ≤ u) : ∀ n, fallsM t (List.replicate n ⟨u, ⟨#[]⟩⟩) = false
  | 0 => rfl
  | n + 1 => by rw [List.replicate_succ, fallsM, if_neg (by simp; omega)]; exact fallsM_rep u u (Int.le_refl _) n

theorem law07_fixed_ok {h : Heap} {R : Bool → Heap → Prop} (hR : ∀ h', Ext h.size h h' → R true h') : C_law07_fixed h R := by
  refine A_law07_fixed ?_
  unfold S_law07_fixed
  refine alloc (cs := cE [⟨1, ⟨#[]⟩⟩, ⟨1, ⟨#[]⟩⟩]) fun h1 b1 e1 z1 => ?_
  have r1 : RdS h1 2 ⟨some ⟨h.size, 0, none⟩, 2, 2⟩ (cE [⟨1, ⟨#[]⟩⟩, ⟨1, ⟨#[]⟩⟩]) := (Own.full b1 (sz := 2) (n := 2) (by rfl) (by decide)).rd
  refine log_New_ok (B := h.size) r1 (by decide) e1.1 fun h2 d s l2 e2 => ?_
  have E2 : Ext h.size h h2 := e1.trans (e2.mono e1.1)
  refine alloc (cs := cE [⟨2, ⟨#[120]⟩⟩]) fun h3 b3 e3 z3 => ?_
  have r3 : RdS h3 2 ⟨some ⟨h2.size, 0, none⟩, 1, 1⟩ (cE [⟨2, ⟨#[120]⟩⟩]) := (Own.full b3 (sz := 2) (n := 1) (by rfl) (by decide)).rd
  have E3 : Ext h.size h h3 := E2.trans (e3.mono E2.1)
  have kn : knownM (List.drop 1 [⟨1, ⟨#[]⟩⟩, ⟨1, ⟨#[]⟩⟩]) [⟨2, ⟨#[120]⟩⟩] = 0 := by simp [knownM]
  have fl : fallsM 1 [⟨2, ⟨#[120]⟩⟩] = false := by simp [fallsM]
  refine log_Put_ok (l2.ext e3) r3 (Nat.le_refl _) (by decide) (fun hb => by simp at hb) (fun k hk hi hne => ?_) fun k hk hi ht => ?_
  · obtain rfl : k = 1 := by omega
    simp at hne
  · obtain rfl : k = 1 := by omega
    refine ⟨fun hf => (by rw [fl] at hf; cases hf), fun _ hf => (by rw [kn] at hf; cases hf), fun _ _ hf => (by simp at hf), fun _ _ _ h4 s4 l4 e4 => ?_⟩
    rw [kn] at l4 ⊢
    have l4 : LRep h.size h4 d s4 [⟨1, ⟨#[]⟩⟩, ⟨2, ⟨#[120]⟩⟩] := l4
    have E4 : Ext h.size h h4 := E3.trans e4
    refine log_Last_ok l4 ?_
    refine log_Put_ok l4 (xs := []) (RdS.nil _ _ _ _) (Nat.le_refl _) (by decide) (fun hb => ?_) (fun k hk hi => by simp at hk; omega) fun k hk hi => by simp at hk; omega
    refine log_Put_ok l4 (xs := []) (RdS.nil _ _ _ _) (Nat.le_refl _) (by decide) (fun hb => by simp at hb) (fun k hk hi hne => ?_) fun k hk hi ht => ?_
    · refine log_Put_nil (brY rfl (brY rfl (brY rfl (brY rfl (brY rfl (brY rfl ?_))))))
      refine log_Add_ok l4 (fun _ h5 l5 e5 => ?_) (fun hx => by simp [lastT] at hx) (fun hx => by simp [lastT] at hx)
      have E5 : Ext h.size h h5 := E4.trans (e5.mono l4.le)
      refine brY rfl (log_Younger_ok l5 (brY (by simp [lastT]) (log_Younger_ok l5 (brY (by simp [lastT]) ?_))))
      refine log_From_n l5 (by decide) (by decide) (by decide) (by decide) fun r h6 hn l6 e6 => ?_
      have E6 : Ext h.size h h6 := E5.trans (e6.mono l5.le)
      refine brY (by rw [beq_iff_eq, hn]; rfl) (brY rfl ?_)
      refine log_Add_nil fun h7 e7 => brY rfl (log_Younger_nil (brY rfl (log_All_nil ?_)))
      exact hR h7 (E6.trans (e7.mono l6.le))
    · obtain rfl : k = 2 := by omega
      simp at ht
/-! ## LogFull -/
theorem cE_rep (n : Nat) (u : Int) : cE (List.replicate n ⟨u, ⟨#[]⟩⟩) ++ cE [⟨u, ⟨#[]⟩⟩] = cE (List.replicate (n + 1) ⟨u, ⟨#[]⟩⟩) := by
  rw [← cE_append]; congr 1; rw [← List.replicate_succ']
theorem lastT_rep (n : Nat) (u : Int) (h0 : 0 ≤ u) : lastT (List.replicate n ⟨u, ⟨#[]⟩⟩) ≤ u := by
  cases n with
  | zero => exact h0
  | succ n => rw [lastT_get (k := n) (by simp) (by simp)]; simp
set_option maxRecDepth 100000 in
theorem law07_LogFull_ok {less more : Int} {h : Heap} (w0 : 0 ≤ less ∧ less ≤ 255) (w1 : 0 ≤ more ∧ more ≤ 255) : C_law07_LogFull less more h fun r h' => r = true ∧ Ext h.size h h' := by
  refine A_law07_LogFull ?_
  unfold S_law07_LogFull
  refine law07_fixed_ok fun h0 e0 => brN rfl ?_
  refine log_New_ok (B := h.size) (es := []) (RdS.nil _ _ _ _) (by decide) e0.1 fun h1 d s l1 e1 => let_ ?_
  have E1 : Ext h.size h h1 := e0.trans (e1.mono e0.1)
  rw [w64 (n := less) (by omega) (by omega), w64 (n := 1024 - less) (by omega) (by omega), w64 (n := more) (by omega) (by omega)]
  refine loop1 (s1 := .one (.int .i64)) (fun (x : Int) h2 => ∃ (k : Nat) (s : Sl), x = k ∧ (k : Int) ≤ 1024 - less ∧ LRep h.size h2 d s (List.replicate k ⟨1, ⟨#[]⟩⟩) ∧ Ext h.size h h2) (fun (x : Int) _ => (1024 - less - x).toNat)
    ⟨0, s, rfl, by omega, l1, E1⟩ fun _ (x : Int) h2 hI => ?_
  obtain ⟨k, s, rfl, hk, hL, hE⟩ := hI
  refine brD (fun hc => ?_) fun hc => ?_
  · refine log_Add_ok hL (fun hx => by have := lastT_rep k 1 (by decide); omega) (fun _ hx => by rw [List.length_replicate] at hx; omega) fun _ _ h3 s3 l3 e3 => brN rfl ?_
    rw [w64 (by omega) (by omega)]
    rw [← List.replicate_succ'] at l3
    exact ⟨⟨k + 1, s3, by omega, by omega, l3, hE.trans e3⟩, by omega⟩
  · have hkk : (k : Int) = 1024 - less := by omega
    refine mk TE ZE 0 0 rfl rfl (by decide) (by decide) (by decide) fun h3 b3 e3 z3 => ?_
    have hL3 := hL.ext e3
    have E3 : Ext h.size h h3 := hE.trans (e3.mono hL.le)
    rw [← hkk]
    have hlast : (if h : 0 < k ∧ k - 1 < (List.replicate k (⟨1, ⟨#[]⟩⟩ : LE)).length then (List.replicate k (⟨1, ⟨#[]⟩⟩ : LE))[k - 1].term else 0) = 1 := by
      rw [dif_pos (by rw [List.length_replicate]; omega), List.getElem_replicate]
    refine log_Put_ok hL3 (xs := []) (RdS.nil _ _ _ _) (Nat.le_refl _) (by decide) (fun hb => by rw [List.length_replicate] at hb; omega) (fun k' hk' hi hne => ?_) fun k' hk' hi ht => ?_
    · obtain rfl : k' = k := by omega
      exact absurd hlast hne
    · obtain rfl : k' = k := by omega
      have kn0 : knownM ((List.replicate k' (⟨1, ⟨#[]⟩⟩ : LE)).drop k') [] = 0 := by cases ((List.replicate k' (⟨1, ⟨#[]⟩⟩ : LE)).drop k') <;> simp [knownM]
      refine ⟨fun hf => (by cases hf), fun _ _ h4 l4 e4 => ?_, fun _ hx => (absurd kn0 hx), fun _ hx => (absurd kn0 hx)⟩
      have E4 : Ext h.size h h4 := E3.trans (e4.mono hL3.le)
      refine alloc (cs := cE []) fun h5 b5 e5 z5 => ?_
      have E5 : Ext h.size h h5 := E4.trans (e5.mono l4.le)
      have hL5 := l4.ext e5
      have o5 : Own h5 2 ⟨some ⟨h4.size, 0, none⟩, 0, 0⟩ (cE []) := Own.full b5 (sz := 2) (n := 0) (by rfl) (by decide)
      have hdl : d < h4.size := l4.dlt
      have hsl : s.below h4.size := l4.2.1.below
      refine loop2 (s1 := .one .sl) (s2 := .one (.int .i64)) (fun (row : Sl) (x : Int) h6 => ∃ (j : Nat), x = j ∧ (j : Int) ≤ more ∧ Own h6 2 row (cE (List.replicate j ⟨2, ⟨#[]⟩⟩)) ∧ row.from_ h4.size ∧ Ext h4.size h4 h6) (fun _ (x : Int) _ => (more - x).toNat)
        ⟨0, rfl, by omega, o5, (fun g hg => by simp [Sl.blk] at hg; omega), e5⟩ fun _ (row : Sl) (x : Int) h6 hI => ?_
      obtain ⟨j, rfl, hj, ho, hfr, he6⟩ := hI
      have hrn := own_nE ho
      rw [List.length_replicate] at hrn
      refine brD (fun hc2 => ?_) fun hc2 => ?_
      · refine alloc (cs := cE [⟨2, ⟨#[]⟩⟩]) fun h7 b7 e7 z7 => ?_
        have r7 : RdS h7 2 ⟨some ⟨h6.size, 0, none⟩, 1, 1⟩ (cE [⟨2, ⟨#[]⟩⟩]) := (Own.full b7 (sz := 2) (n := 1) (by rfl) (by decide)).rd
        refine app TE (ho.ext' e7) r7 cE_one (by show (row.n + 1) * 24 ≤ _; omega) (by show row.n + 1 ≤ _; omega) fun s8 h8 o8 n8 u8 b8 => ?_
        rw [cE_rep] at o8
        rw [w64 (by omega) (by omega)]
        have hsz := he6.1
        refine ⟨⟨j + 1, by omega, by omega, o8, ?_, (he6.trans (e7.mono hsz)).trans (u8.ext (by have := e7.1; omega) fun g hg e => by have := hfr g e; omega)⟩, by omega⟩
        rcases b8 with e | e
        · intro g hg; exact hfr g (by rw [← e]; exact hg)
        · intro g hg; have := e g hg; have := e7.1; omega
      · have hL6 := l4.ext he6
        have E6 : Ext h.size h h6 := E4.trans (he6.mono l4.le)
        have hjm : (j : Int) = more := by omega
        have kn : ∀ n, knownM ((List.replicate k' (⟨1, ⟨#[]⟩⟩ : LE)).drop k') (List.replicate n ⟨2, ⟨#[]⟩⟩) = 0 := fun n => by
          rw [List.drop_of_length_le (by simp), knownM_nil]
        refine log_Put_ok hL6 ho.rd ho.2.1 (by rw [List.length_replicate]; omega) (fun hb => by rw [List.length_replicate] at hb; omega) (fun k'' hk'' hi hne => ?_) fun k'' hk'' hi ht => ?_
        · obtain rfl : k'' = k' := by omega
          exact absurd hlast hne
        · obtain rfl : k'' = k' := by omega
          have fin : ∀ (f : Int) (i : Nat) (m : Int) (h' : Heap), True → True := fun _ _ _ _ x => x
          refine ⟨fun hf => (by rw [fallsM_rep 1 2 (by decide)] at hf; cases hf), fun _ hx h7 l7 e7 => ?_, fun _ hx hfull h7 l7 e7 => ?_, fun _ hx hroom h7 s7 l7 e7 => ?_⟩
          · rw [kn, List.length_replicate] at hx
            subst hx
            have E7 : Ext h.size h h7 := E6.trans (e7.mono hL6.le)
            refine brN rfl (brN rfl (brN (decide_eq_false (by omega)) ?_))
            refine log_Last_ok l7 (brY rfl (brY (by rw [beq_iff_eq, List.length_replicate, w64 (by omega) (by omega)]; omega) (brB (fun _ => ⟨rfl, E7⟩) fun hge => ?_)))
            have hge := of_decide_eq_false hge
            rw [List.length_replicate] at hge
            refine log_Add_ok l7 (fun hx2 => by have := lastT_rep k'' 1 (by decide); omega) (fun _ _ h8 l8 e8 => ⟨rfl, E7.trans (e8.mono l7.le)⟩) fun _ hx2 => by rw [List.length_replicate] at hx2; omega
          · rw [List.length_replicate] at hfull
            have E7 : Ext h.size h h7 := E6.trans (e7.mono hL6.le)
            refine brN rfl (brN rfl (brY (decide_eq_true (by omega)) ?_))
            refine log_Last_ok l7 (join1 (s1 := .one .bool) (fun (b : Bool) h8 => b = true ∧ h8 = h7) (fun _ (b : Bool) h8 hJ => ?_) (brY rfl (brY rfl ⟨?_, rfl⟩)))
            · obtain ⟨rfl, rfl⟩ := hJ
              exact ⟨rfl, E7⟩
            · rw [List.length_replicate]; simp
          · rw [List.length_replicate] at hroom
            rw [kn, Nat.add_zero, List.drop_zero, List.take_of_length_le (by simp)] at l7
            have E7 : Ext h.size h h7 := E6.trans e7
            refine brN rfl (brN rfl (brN (decide_eq_false (by omega)) ?_))
            refine log_Last_ok l7 (brY rfl (brY (by rw [beq_iff_eq, List.length_append, List.length_replicate, List.length_replicate, w64 (by omega) (by omega)]; omega) (brB (fun _ => ⟨rfl, E7⟩) fun hge => ?_)))
            have hge := of_decide_eq_false hge
            rw [List.length_append, List.length_replicate, List.length_replicate] at hge
            refine log_Add_ok l7 (fun hx2 => ?_) (fun _ _ h8 l8 e8 => ⟨rfl, E7.trans (e8.mono l7.le)⟩) fun _ hx2 => by rw [List.length_append, List.length_replicate, List.length_replicate] at hx2; omega
            have hj0 : 0 < j := Nat.pos_of_ne_zero fun e => by subst e; rw [kn, List.length_replicate] at hx; exact hx rfl
            rw [lastT_get (k := k'' + j - 1) (by simp; omega) (by simp; omega), List.getElem_append_right (by simp; omega), List.getElem_replicate] at hx2
            simp at hx2
/-! ## LogTwice -/
theorem put0 {es : List LE} {k : Nat} (hi : (0 : Int) = k) : (if h : 0 < k ∧ k - 1 < es.length then es[k - 1].term else 0) = 0 := by
  obtain rfl : k = 0 := by omega
  rfl
theorem law07_LogTwice_ok {l : Sl} {xs : List LE} {cut : Int} {h : Heap} (w0 : Arg h 2 l (cE xs) ∧ l.below h.size) (w1 : 0 ≤ cut ∧ cut ≤ 255) : C_law07_LogTwice l cut h fun r h' => r = true ∧ Ext h.size h h' := by
  refine A_law07_LogTwice ?_
  unfold S_law07_LogTwice
  obtain ⟨ha, hb⟩ := w0
  have hln := rd_nE ha.rd
  refine law07_fixed_ok fun h0 e0 => brN rfl (brD (fun _ => ⟨rfl, e0⟩) fun hc => ?_)
  refine log_New_ok (B := h.size) (es := []) (RdS.nil _ _ _ _) (by decide) e0.1 fun h1 d s l1 e1 => ?_
  have E1 : Ext h.size h h1 := e0.trans (e1.mono e0.1)
  -- the second and the third putting
  have rest : ∀ (h2 : Heap) (s2 : Sl) (r2 : Int), LRep h.size h2 d s2 xs → Ext h.size h h2 → fallsM 0 xs = false → r2 = (if 1 < (l.n : Int) then 1 else (l.n : Int)) →
      C_log_Log_Put (some ⟨d, 0, none⟩) 0 0 l h2 fun (r5 : Int) (r6 : Int) h_4 =>
        Nz (IntKind.i64.wrap ((l.n : Int) + 1)) (
        Let (divV .rem .i64 (IntKind.i64.wrap cut) (IntKind.i64.wrap ((l.n : Int) + 1)) : Int) fun k =>
        Cut Try.prog 75 l none (some (.int .i64 k)) none fun s =>
        C_log_Log_Put (some ⟨d, 0, none⟩) 0 0 s h_4 fun (r7 : Int) (r8 : Int) h_5 =>
        C_log_Log_Last (some ⟨d, 0, none⟩) h_5 fun (r9 : Int) (_ : Int) h_6 =>
        (bif r2 == (if 1 < (l.n : Int) then 1 else (l.n : Int)) then
          (bif r5 == 0 then
            (bif r7 == 0 then
              (bif r6 == 0 then
                (bif r8 == 0 then
                  ((r9 == (l.n : Int)) = true ∧ Ext h.size h h_6)
                else
                  (false = true ∧ Ext h.size h h_6)
                )
              else
                (false = true ∧ Ext h.size h h_6)
              )
            else
              (false = true ∧ Ext h.size h h_6)
            )
          else
            (false = true ∧ Ext h.size h h_6)
          )
        else
          (false = true ∧ Ext h.size h h_6)
        )
        ) := by
    intro h2 s2 r2 l2 E2 hf hr2
    refine log_Put_ok l2 (ha.rd.ext E2 hb) ha.le (by omega) (fun hx => by omega) (fun k hk hi hne => absurd (put0 hi) hne) fun k hk hi ht => ?_
    obtain rfl : k = 0 := by omega
    have kn : knownM (xs.drop 0) xs = xs.length := by
      have := knownM_take xs xs.length (Nat.le_refl _)
      rwa [List.take_length] at this
    refine ⟨fun hx => (by rw [hf] at hx; cases hx), fun _ _ h3 l3 e3 => ?_, fun _ hx => absurd kn hx, fun _ hx => absurd kn hx⟩
    have E3 : Ext h.size h h3 := E2.trans (e3.mono l2.le)
    rw [w64 (n := (l.n : Int) + 1) (by omega) (by omega), w64 (n := cut) (by omega) (by omega)]
    refine nz (by omega) (let_ ?_)
    rw [rem_nonneg w1.1]
    have m0 : 0 ≤ cut % ((l.n : Int) + 1) := Int.emod_nonneg _ (by omega)
    have m1 : cut % ((l.n : Int) + 1) < (l.n : Int) + 1 := Int.emod_lt_of_pos _ (by omega)
    generalize cut % ((l.n : Int) + 1) = k at *
    obtain ⟨k, rfl⟩ : ∃ n : Nat, k = n := ⟨k.toNat, by omega⟩
    refine cut_rd TE (ha.rd.ext E3 hb) 0 k l.c lo0 (hii rfl) (.inl ⟨rfl, rfl⟩) (by omega) (by omega) (by have := ha.le; omega) (Nat.le_refl _) fun s4 r4 n4 c4 b4 => ?_
    rw [Nat.zero_mul, List.drop_zero, Nat.sub_zero, cE_take] at r4
    have c4' : s4.n ≤ s4.c := by have := ha.le; omega
    refine log_Put_ok l3 r4 c4' (by rw [List.length_take]; omega) (fun hx => by omega) (fun k hk hi hne => absurd (put0 hi) hne) fun k' hk' hi ht => ?_
    obtain rfl : k' = 0 := by omega
    have kn2 : knownM (xs.drop 0) (xs.take k) = (xs.take k).length := by
      rw [List.drop_zero, knownM_take xs k (by omega), List.length_take]; omega
    refine ⟨fun hx => (by rw [fallsM_take _ _ _ hf] at hx; cases hx), fun _ _ h5 l5 e5 => ?_, fun _ hx => absurd kn2 hx, fun _ hx => absurd kn2 hx⟩
    have E5 : Ext h.size h h5 := E3.trans (e5.mono l3.le)
    refine log_Last_ok l5 (brY (by rw [beq_iff_eq]; exact hr2) (brY rfl (brY rfl (brY rfl (brY rfl ⟨?_, E5⟩)))))
    rw [beq_iff_eq]; omega
  refine log_Put_ok l1 (ha.rd.ext E1 hb) ha.le (by omega) (fun hx => by omega) (fun k hk hi hne => absurd (put0 hi) hne) fun k hk hi ht => ?_
  obtain rfl : k = 0 := by omega
  rw [List.drop_nil, knownM_nil]
  refine ⟨fun hf h2 l2 e2 => ?_, fun hf hx h2 l2 e2 => ?_, fun _ _ hx => by omega, fun hf hx _ h2 s2 l2 e2 => ?_⟩
  · refine brY rfl (log_All_ok l2 fun r h3 o3 f3 e3 => ⟨?_, (E1.trans (e2.mono l1.le)).trans (e3.mono l2.le)⟩)
    have := own_nE o3
    rw [this]; rfl
  · have hx0 : xs = [] := List.eq_nil_of_length_eq_zero hx.symm
    subst hx0
    refine brN rfl (rest h2 s 0 l2 (E1.trans (e2.mono l1.le)) hf ?_)
    rw [hln]; rfl
  · rw [List.take_nil, List.nil_append, List.drop_zero] at l2
    refine brN rfl (rest h2 s2 1 l2 (E1.trans e2) hf ?_)
    split <;> omega

section
open Go.ChangeShapes Go.WideShapes
variable {H : Type} {enc : TypeId × Value → H} {w : World} {b0 : Nat} {v : Value} {d : DataW H} {ps : List MemPlace}
set_option maxRecDepth 100000 in
theorem el_entry : El enc Try.prog w 73 fun cs => ∃ a : LE, cs = a.cells ∧ -9223372036854775808 ≤ a.term ∧ a.term ≤ 9223372036854775807 ∧ a.data.size ≤ 9223372036854775807 := by
  refine el_st Try.underlying73 fun cs hl hf => ?_
  have hl3 : cs.length = 2 := hl.trans (by kernel_rfl)
  match cs, hl3 with
  | [c0, c1], _ =>
    obtain ⟨_, _, h0⟩ := hf 0 _ rfl
    obtain ⟨_, _, h1⟩ := hf 1 _ rfl
    obtain ⟨n0, e0, w0⟩ := el_int Try.underlying3 _ _ _ h0
    obtain ⟨n1, e1, w1⟩ := el_str Try.underlying9 _ _ _ h1
    have e0' : [c0] = [Value.int .i64 n0] := e0
    have e1' : [c1] = [Value.string n1] := e1
    simp only [List.cons.injEq, and_true] at e0' e1'
    subst e0' e1'
    exact ⟨⟨n0, n1⟩, rfl, (wf_bd w0).1, (wf_bd w0).2, w1⟩
set_option maxRecDepth 100000 in
theorem arg_entries (hval : Value.okWide Try.prog w .any b0 75 v) (hd : DataW.Trod enc Try.prog w 0 (fun _ => true) true 75 v d ps) :
    ∃ (s : Sl) (l : List LE), v = s.v ∧ Arg w.heap 2 s (cE l) ∧ s.below w.heap.size := by
  obtain ⟨s, css, h1, _, h3, h4, h5⟩ := arg_sl (sz := 2) Try.underlying75 (by kernel_rfl) (by decide) el_entry hval hd
  obtain ⟨acts, h6, h7, _⟩ := cells_of LE.cells _ fun c hc => (h3 c hc).2
  rw [h6] at h4
  exact ⟨s, acts, h1, h4, h5⟩
end
end Go.Proofs.Ytfafikomhbedbaa
