/-
  Layer 36 (quorum): the fixed calls; a system that may be none; QuorumTells, QuorumJoint.
-/
import Derived.Test.YtegbnmaglkpkjaaYg
namespace Go.Proofs.Ytegbnmaglkpkjaa
open Go

def q5 : Nat → Bool := QR.q (.w (List.replicate 5 1))
theorem q5_len : (leastL q5 5).length = 10 := by decide +kernel
theorem q5_get : (leastL q5 5)[0]? = some 7 := by decide +kernel
theorem ok_g22 : (QR.g 2 2).ok (2 * 2) := ⟨by decide, by decide, rfl, by decide⟩
theorem ok_w311 : (QR.w [3, 1, 1]).ok 3 := ⟨rfl, by decide, by decide, by decide⟩
theorem ok_k31 : (QR.k 1).ok 3 := ⟨by decide, by decide, by decide⟩
theorem fixed_ok {hB : Heap} {R : Bool → Heap → Prop} (hR : ∀ h', Ext hB.size hB h' → R true h') : C_law36_fixed hB R := by
  refine A_law36_fixed ?_
  unfold S_law36_fixed
  have ok5 : (QR.w (List.replicate 5 1)).ok 5 := most_okq (by decide) (by decide)
  have E : Ext hB.size hB hB := Ext.refl _ _
  refine Most_ok (fun m hm _ _ d h1 e1 S => ?_) fun hn => absurd (by decide) hn
  obtain rfl : m = 5 := by omega
  have E := tr E e1
  refine Least_ok S ok5 fun s1 h2 e2 A1 => ?_
  have S := S.ext e2; have E := tr E e2
  refine Grid_ok (fun r c hr hc _ d2 h3 e3 S2 => ?_) fun hn => absurd (by decide) (hn 2 2 rfl rfl (by decide) (by decide) (by decide) (by decide))
  obtain rfl : r = 2 := by omega
  obtain rfl : c = 2 := by omega
  have S := S.ext e3; have E := tr E e3
  have A1 := A1.ext' e3
  refine allocAt (cs := [.int .i64 3, .int .i64 1, .int .i64 1]) (At.start h3) fun h4 b H => ?_
  have e4 : Ext h3.size h3 h4 := H.ext
  have S := S.ext e4; have S2 := S2.ext e4; have E := tr E e4
  have A1 := A1.ext' e4
  refine Weighted_ok (ws := [3, 1, 1]) (Own.full (H.get 0 rfl : Blk h4 b _ _) (sz := 1) (n := 3) rfl (by decide)).rd (by decide) (fun _ d3 h5 e5 S3 => ?_) fun hn => absurd ok_w311 hn
  have S := S.ext e5; have S2 := S2.ext e5; have E := tr E e5
  have A1 := A1.ext' e5
  have l10 : (leastL (QR.q (.w (List.replicate 5 1))) 5).length = 10 := q5_len
  refine brY (by rw [rdn A1, l10]; rfl) ?_
  refine ixR A1 0 rfl (by rw [l10]; decide) fun e he => ?_
  refine ldR0 A1 he (by rw [l10]; decide) (7 : Int) ?_ ?_
  · have := q5_get
    unfold q5 at this
    rw [List.getElem?_eq_getElem (by rw [l10]; decide)] at this
    injection this with this
    rw [this]; rfl
  refine brY (by decide) ?_
  refine Tol_ok S ok5 fun h6 e6 => ?_
  have S := S.ext e6; have S2 := S2.ext e6; have S3 := S3.ext e6; have E := tr E e6
  refine brY (by decide +kernel) ?_
  refine is_ok (x := 7) S ok5 (by decide) fun h7 e7 => ?_
  have S := S.ext e7; have S2 := S2.ext e7; have S3 := S3.ext e7; have E := tr E e7
  refine brY (by decide +kernel) ?_
  refine is_ok (x := 3) S ok5 (by decide) fun h8 e8 => ?_
  have S := S.ext e8; have S2 := S2.ext e8; have S3 := S3.ext e8; have E := tr E e8
  refine brY (by decide +kernel) ?_
  refine Meets_ok S ok5 S ok5 fun h9 e9 => ?_
  have S2 := S2.ext e9; have S3 := S3.ext e9; have E := tr E e9
  refine brY (by decide +kernel) ?_
  refine is_ok (x := 7) S2 ok_g22 (by decide) fun h10 e10 => ?_
  have S2 := S2.ext e10; have S3 := S3.ext e10; have E := tr E e10
  refine brY (by decide +kernel) ?_
  refine is_ok (x := 3) S2 ok_g22 (by decide) fun h11 e11 => ?_
  have S2 := S2.ext e11; have S3 := S3.ext e11; have E := tr E e11
  refine brY (by decide +kernel) ?_
  refine Nodes_ok S2 ?_
  refine brY (by decide) ?_
  refine is_ok (x := 1) S3 ok_w311 (by decide) fun h12 e12 => ?_
  have S3 := S3.ext e12; have E := tr E e12
  refine brY (by decide +kernel) ?_
  refine is_ok (x := 6) S3 ok_w311 (by decide) fun h13 e13 => ?_
  have S3 := S3.ext e13; have E := tr E e13
  refine brY (by decide +kernel) ?_
  refine Tol_ok S3 ok_w311 fun h14 e14 => ?_
  have E := tr E e14
  refine brY (by decide +kernel) ?_
  refine Joint_ok (a := 8) (b := 1) (by decide) (by decide) (fun m hm _ hok _ _ _ _ => ?_) fun _ h15 e15 => ?_
  · obtain rfl : m = 3 := by omega
    exact absurd rfl hok.2.2.2.1
  have E := tr E e15
  refine brT ?_
  refine AtLeast_ok (fun m hm hok _ _ _ _ => ?_) fun _ h16 e16 => ?_
  · have := hok.2.1
    omega
  have E := tr E e16
  refine brT ?_
  refine Grid_ok (fun r c hr hc hok _ _ _ _ => ?_) fun _ h17 e17 => ?_
  · obtain rfl : r = 3 := by omega
    obtain rfl : c = 3 := by omega
    exact absurd hok.2.2.2 (by decide)
  have E := tr E e17
  refine brT ?_
  refine allocAt (cs := [.int .i64 0]) (At.start h17) fun h18 b1 H => ?_
  have e18 : Ext h17.size h17 h18 := H.ext
  have E := tr E e18
  refine Weighted_ok (ws := [0]) (Own.full (H.get 0 rfl : Blk h18 b1 _ _) (sz := 1) (n := 1) rfl (by decide)).rd (by decide) (fun hok _ _ _ _ => absurd hok.2.2.2 (by decide)) fun _ h19 e19 => ?_
  have E := tr E e19
  refine brT (is_nil (brT (Tol_nil ?_)))
  refine brY (by decide) ?_
  refine AtLeast_ok (fun m hm hok d4 h20 e20 S4 => ?_) fun hn => absurd (by decide) hn
  obtain rfl : m = 3 := by omega
  have E := tr E e20
  refine Tol_ok S4 ok_k31 fun h21 e21 => ?_
  have E := tr E e21
  have h2 : (tolF (QR.q (.k 1)) 3 (2 ^ 3) - 1 == 2) = true := by decide +kernel
  rw [h2]
  exact hR _ E
/-- A system, or none. -/
def OptS (h : Heap) (o : Option Addr) (p : Prop) (n : Nat) (r : QR) : Prop := (p ∧ r.ok n ∧ ∃ d, o = some ⟨d, 0, none⟩ ∧ SysR h d n r) ∨ (¬ p ∧ o = none)
theorem OptS.ext {h h' : Heap} {o : Option Addr} {p : Prop} {n : Nat} {r : QR} (S : OptS h o p n r) (e : Ext h.size h h') : OptS h' o p n r := by
  rcases S with ⟨hp, hok, d, rfl, S⟩ | S
  · exact .inl ⟨hp, hok, d, rfl, S.ext e⟩
  · exact .inr S
section
variable {h : Heap} {R : Option Addr → Heap → Prop}
theorem Weighted_op {s : Sl} {ws : List Int} (A : RdS h 1 s (eN.fl ws)) (hl : ws.length ≤ 12) (hR : ∀ o h', Ext h.size h h' → OptS h' o ((QR.w ws).ok ws.length) ws.length (.w ws) → R o h') : C_quorum_Weighted s h R :=
  Weighted_ok A hl (fun hok d h' e S => hR _ h' e (.inl ⟨hok, hok, d, rfl, S⟩)) fun hn h' e => hR _ h' e (.inr ⟨hn, rfl⟩)
theorem AtLeast_op {n k : Int} (hR : ∀ o h', Ext h.size h h' → OptS h' o (1 ≤ n ∧ n ≤ 7 ∧ 1 ≤ k ∧ k ≤ n) n.toNat (.k k) → R o h') : C_quorum_AtLeast n k h R :=
  AtLeast_ok (fun m hm hok d h' e S => hR _ h' e (.inl ⟨by have := hok.1; have := hok.2.1; have := hok.2.2; omega, by rw [hm]; exact hok, d, rfl, by rw [hm]; exact S⟩)) fun hn h' e => hR _ h' e (.inr ⟨hn, rfl⟩)
theorem Most_op {n : Int} (hR : ∀ o h', Ext h.size h h' → OptS h' o (1 ≤ n ∧ n ≤ 7) n.toNat (.w (List.replicate n.toNat 1)) → R o h') : C_quorum_Most n h R :=
  Most_ok (fun m hm h1 h7 d h' e S => hR _ h' e (.inl ⟨by omega, by rw [hm]; exact most_okq h1 h7, d, rfl, by rw [hm]; exact S⟩)) fun hn h' e => hR _ h' e (.inr ⟨hn, rfl⟩)
theorem Joint_op {n : Int} {a b : Nat} (ha : a < 18446744073709551616) (hb : b < 18446744073709551616) (hR : ∀ o h', Ext h.size h h' → OptS h' o (1 ≤ n ∧ n ≤ 7 ∧ a % 2 ^ n.toNat ≠ 0 ∧ b % 2 ^ n.toNat ≠ 0) n.toNat (.j (a % 2 ^ n.toNat) (b % 2 ^ n.toNat)) → R o h') : C_quorum_Joint n (a : Int) (b : Int) h R := by
  refine Joint_ok ha hb (fun m hm h1 hok d h' e S => hR _ h' e (.inl ?_)) fun hn h' e => hR _ h' e (.inr ⟨fun hp => ?_, rfl⟩)
  · subst hm
    have h7 := hok.1
    exact ⟨⟨by omega, by omega, hok.2.2.2.1, hok.2.2.2.2⟩, hok, d, rfl, S⟩
  · obtain ⟨m, rfl⟩ := Int.eq_ofNat_of_zero_le (show 0 ≤ n by omega)
    rcases hn m rfl (by omega) (by omega) with h0 | h0
    · exact hp.2.2.1 h0
    · exact hp.2.2.2 h0
theorem Grid_op {rows cols : Int} (hR : ∀ o h', Ext h.size h h' → OptS h' o (1 ≤ rows ∧ rows ≤ 7 ∧ 1 ≤ cols ∧ cols ≤ 7 ∧ rows * cols ≤ 7) (rows.toNat * cols.toNat) (.g rows.toNat cols.toNat) → R o h') : C_quorum_Grid rows cols h R := by
  refine Grid_ok (fun r c hr hc hok d h' e S => hR _ h' e (.inl ?_)) fun hn h' e => hR _ h' e (.inr ⟨fun hp => ?_, rfl⟩)
  · subst hr hc
    have h1 := hok.1
    have h2 := hok.2.1
    have h3 := hok.2.2.2
    have r7 : r ≤ 7 := Nat.le_trans (Nat.le_mul_of_pos_right r h2) h3
    have c7 : c ≤ 7 := Nat.le_trans (Nat.le_mul_of_pos_left c h1) h3
    exact ⟨⟨by omega, by omega, by omega, by omega, by rw [← Int.natCast_mul]; omega⟩, hok, d, rfl, S⟩
  · obtain ⟨r, rfl⟩ := Int.eq_ofNat_of_zero_le (show 0 ≤ rows by omega)
    obtain ⟨c, rfl⟩ := Int.eq_ofNat_of_zero_le (show 0 ≤ cols by omega)
    have := hp.2.2.2.2
    rw [← Int.natCast_mul] at this
    exact hn r c rfl rfl (by omega) (by omega) (by omega) (by omega) (by omega)
end
/-! ## The laws -/
theorem most_eq : ∀ n : Fin 8, ∀ m : Fin 128, m.val < 2 ^ n.val → QR.q (.k ((n.val / 2 + 1 : Nat) : Int)) m.val = QR.q (.w (List.replicate n.val 1)) m.val := by decide +kernel
theorem brIs {o : Option Addr} {A B : Prop} (h1 : o = none → B) (h2 : o ≠ none → A) : cond (!o.isNone) A B := by
  cases o with
  | none => exact h1 rfl
  | some a => exact h2 (by simp)
theorem Tells_ok {hB : Heap} {weights : Sl} {ws : List Int} {n k : Int} {x : Nat} (A : RdS hB 1 weights (eN.fl ws)) (hx : x < 18446744073709551616) {R : Bool → Heap → Prop} (hR : ∀ h', Ext hB.size hB h' → R true h') : C_law36_QuorumTells weights n k (x : Int) hB R := by
  have hwn := rdn A
  refine A_law36_QuorumTells ?_
  unfold S_law36_QuorumTells
  refine fixed_ok fun h1 E => brF ?_
  refine brD (fun _ => hR _ E) fun h12 => ?_
  have hl : ws.length ≤ 12 := by omega
  refine Weighted_op (A.ext' E) hl fun o1 h2 e2 S1 => ?_
  have E := tr E e2
  refine AtLeast_op fun o2 h3 e3 S2 => ?_
  have S1 := S1.ext e3; have E := tr E e3
  refine Most_op fun o3 h4 e4 S3 => ?_
  have S1 := S1.ext e4; have S2 := S2.ext e4; have E := tr E e4
  refine join2 (s1 := .one .bool) (s2 := .one (.int .i64)) (fun (y : Bool) (t : Int) g => y = decide (1 ≤ ws.length ∧ ws.length ≤ 7) ∧ t = 0 ∧ g = h4) (fun _ (y : Bool) (t : Int) g hJ => ?_) ?_
  · obtain ⟨rfl, rfl, rfl⟩ := hJ
    refine loop3 (s1 := .one .bool) (s2 := .one (.int .i64)) (s3 := .one (.int .i64)) (fun (y : Bool) (t z : Int) g' => ∃ j : Nat, z = j ∧ j ≤ ws.length ∧ (y = true ↔ (1 ≤ ws.length ∧ ws.length ≤ 7) ∧ ∀ i, i < j → 0 ≤ wt ws i ∧ wt ws i ≤ 64) ∧ (y = true → t = tot (wt ws) j ∧ 0 ≤ t ∧ t ≤ 64 * j) ∧ g' = g) (fun (_ : Bool) (_ z : Int) _ => (ws.length - z).toNat) ⟨0, rfl, Nat.zero_le _, by rw [decide_eq_true_iff]; exact ⟨fun h => ⟨h, fun i hi => absurd hi (Nat.not_lt_zero _)⟩, fun h => h.1⟩, fun _ => ⟨rfl, Int.le_refl _, by decide⟩, rfl⟩ fun _ (y : Bool) (t z : Int) g' hI => ?_
    obtain ⟨j, rfl, hj, hy, ht, rfl⟩ := hI
    have A := A.ext' E
    refine brD (fun hc => ?_) fun hc => ?_
    · have hj2 : j < ws.length := by omega
      have hw := wt_get hj2
      refine ixR A j rfl hj2 fun e he => ?_
      refine ldR0 A he hj2 ws[j] rfl ?_
      have hstep : ∀ y' : Bool, (y' = true ↔ y = true ∧ 0 ≤ ws[j] ∧ ws[j] ≤ 64) → (y' = true ↔ (1 ≤ ws.length ∧ ws.length ≤ 7) ∧ ∀ i, i < j + 1 → 0 ≤ wt ws i ∧ wt ws i ≤ 64) := fun y' hy' => by
        rw [hy', hy]
        constructor
        · rintro ⟨⟨p1, p2⟩, p3, p4⟩
          refine ⟨p1, fun i hi => ?_⟩
          rcases Nat.lt_or_ge i j with h3 | h3
          · exact p2 i h3
          · obtain rfl : i = j := by omega
            rw [hw]; exact ⟨p3, p4⟩
        · rintro ⟨p1, p2⟩
          have p3 := p2 j (Nat.lt_succ_self _)
          rw [hw] at p3
          exact ⟨⟨p1, fun i hi => p2 i (by omega)⟩, p3⟩
      rw [w64 (n := (j : Int) + 1) (by omega) (by omega)]
      refine join1 (s1 := .one .bool) (fun (y' : Bool) g1 => (y' = true ↔ y = true ∧ 0 ≤ ws[j] ∧ ws[j] ≤ 64) ∧ g1 = g') (fun _ (y' : Bool) g1 hJ => ?_) ?_
      · obtain ⟨hy', rfl⟩ := hJ
        refine brB (fun hb => let_ ?_) fun hb => ?_
        · obtain ⟨p1, p2, p3⟩ := hy'.1 hb
          obtain ⟨q1, q2, q3⟩ := ht p1
          rw [w64 (by omega) (by omega)]
          exact ⟨⟨j + 1, by omega, by omega, hstep y' hy', fun _ => ⟨by rw [q1, ← hw]; rfl, by omega, by omega⟩, rfl⟩, by omega⟩
        · exact ⟨⟨j + 1, by omega, by omega, hstep y' hy', fun hb' => (by rw [hb] at hb'; cases hb'), rfl⟩, by omega⟩
      · refine brB (fun hb => ?_) fun hb => ?_
        · refine brD (fun h0 => let_ ⟨?_, rfl⟩) fun h0 => ⟨?_, rfl⟩
          · rw [decide_eq_true_iff]
            exact ⟨fun hle => ⟨hb, h0, hle⟩, fun hh => hh.2.2⟩
          · exact ⟨fun hh => (by cases hh), fun hh => absurd hh.2.1 h0⟩
        · exact ⟨⟨fun hh => (by cases hh), fun hh => by rw [hb] at hh; cases hh.1⟩, rfl⟩
    · obtain rfl : j = ws.length := by omega
      refine join1 (s1 := .one .bool) (fun (y' : Bool) g1 => (y' = true ↔ (QR.w ws).ok ws.length) ∧ g1 = g') (fun _ (y' : Bool) g1 hJ => ?_) ?_
      · obtain ⟨hy', rfl⟩ := hJ
        refine join0 (fun g2 => Ext g1.size g1 g2) (fun _ g2 e5 => ?_) ?_
        · have S2 := S2.ext e5; have S3 := S3.ext e5; have E := tr E e5
          refine join1 (s1 := .one .bool) (fun (z : Bool) g3 => (z = true ↔ ¬ (1 ≤ n ∧ n ≤ 7)) ∧ g3 = g2) (fun _ (z : Bool) g3 hJ => ?_) ?_
          · obtain ⟨hz, rfl⟩ := hJ
            refine brB (fun hb => ?_) fun hb => ?_
            · have hn := hz.1 hb
              refine join1 (s1 := .one .bool) (fun (u : Bool) g4 => u = true ∧ g4 = g3) (fun _ (u : Bool) g4 hJ => ?_) ?_
              · obtain ⟨rfl, rfl⟩ := hJ
                exact hR _ E
              · rcases S2 with ⟨hp, _⟩ | ⟨_, rfl⟩
                · omega
                rcases S3 with ⟨hp, _⟩ | ⟨_, rfl⟩
                · omega
                exact ⟨rfl, rfl⟩
            · have hn : 1 ≤ n ∧ n ≤ 7 := by
                false_or_by_contra
                rename_i hcon
                rw [hz.2 hcon] at hb
                cases hb
              rcases S3 with ⟨_, hok3, d3, rfl, T3⟩ | ⟨hp, _⟩
              · obtain ⟨m, rfl⟩ := Int.eq_ofNat_of_zero_le (show 0 ≤ n by omega)
                simp only [Int.toNat_natCast] at hok3 T3
                have eq : IntKind.i64.wrap (divV .quo .i64 (m : Int) 2 + 1) = ((m / 2 + 1 : Nat) : Int) := by
                  rw [quo_i64 (by omega) (by omega) (by decide), w64 (by omega) (by omega)]; omega
                rw [eq]
                have K3 : KQ g3 (3, (m : Int), 0, ((m / 2 + 1 : Nat) : Int), ⟨none, 0, 0⟩, 0, 0, ()) m (QR.q (.w (List.replicate m 1))) := (kq_k (by omega)).congr fun z hz => most_eq ⟨m, by omega⟩ ⟨z, lt128 (by omega) hz⟩ hz
                refine nz (by decide) (tells_ok T3 hok3 K3 hx fun h5 e6 => brF ?_)
                have S2 := S2.ext e6; have E := tr E e6
                rcases S2 with ⟨hp, hok2, d2, rfl, T2⟩ | ⟨hp, rfl⟩
                · refine brD (fun _ => by omega) fun _ => brD (fun _ => by omega) fun _ => ?_
                  simp only [Int.toNat_natCast] at hok2 T2
                  exact tells_ok T2 hok2 (kq_k (by omega)) hx fun h6 e7 => hR _ (tr E e7)
                · refine brD (fun _ => hR _ E) fun _ => brD (fun _ => hR _ E) fun _ => ?_
                  omega
              · exact absurd hn hp
          · refine brD (fun h => ⟨⟨fun _ => by omega, fun _ => rfl⟩, rfl⟩) fun h => ⟨?_, rfl⟩
            rw [decide_eq_true_iff]
            omega
        · refine brB (fun hb => ?_) fun hb => ?_
          · rcases S1 with ⟨_, hok1, d1, rfl, T1⟩ | ⟨hp, _⟩
            · rw [hwn]
              exact tells_ok T1 hok1 (kq_w A hok1) hx fun h5 e5 => brF e5
            · exact absurd (hy'.1 hb) hp
          · rcases S1 with ⟨hp, _⟩ | ⟨_, rfl⟩
            · rw [hy'.2 hp] at hb
              cases hb
            · exact brF (Ext.refl _ _)
      · have hws : (∀ x ∈ ws, 0 ≤ x ∧ x ≤ 64) ↔ ∀ i, i < ws.length → 0 ≤ wt ws i ∧ wt ws i ≤ 64 := by
          constructor
          · intro hx i hi
            rw [wt_get hi]
            exact hx _ (List.getElem_mem hi)
          · intro hi x hx
            obtain ⟨i, hi', rfl⟩ := List.getElem_of_mem hx
            rw [← wt_get hi']
            exact hi i hi'
        refine brB (fun hb => ⟨?_, rfl⟩) fun hb => ⟨?_, rfl⟩
        · obtain ⟨p1, p2⟩ := hy.1 hb
          obtain ⟨q1, q2, q3⟩ := ht hb
          rw [decide_eq_true_iff]
          exact ⟨fun hh => ⟨rfl, p1.2, hws.2 p2, by omega⟩, fun hok => by rw [q1]; exact hok.2.2.2⟩
        · refine ⟨fun hh => (by cases hh), fun hok => ?_⟩
          have hok2 := hok.2.2.2
          have : y = true := hy.2 ⟨⟨by
            rcases Nat.eq_zero_or_pos ws.length with h0 | h0
            · rw [h0] at hok2
              exact absurd (show (0 : Int) < 0 from hok2) (by decide)
            · exact h0, hok.2.1⟩, hws.1 hok.2.2.1⟩
          rw [hb] at this
          cases this
  · refine brD (fun h => let_ ⟨?_, rfl, rfl⟩) fun h => ⟨?_, rfl, rfl⟩
    · rw [Bool.eq_iff_iff, decide_eq_true_iff, decide_eq_true_iff]
      omega
    · exact (decide_eq_false (by omega)).symm
theorem csm_zero_iff {x n : Nat} (hn : n ≤ 7) : csm one x n = 0 ↔ x % 2 ^ n = 0 := by
  rw [← csm_one_mod hn]
  have hl := lt128 hn (Nat.mod_lt x (Nat.two_pow_pos n))
  constructor
  · intro h0
    rcases Nat.eq_zero_or_pos (x % 2 ^ n) with h1 | h1
    · exact h1
    · have := pop_pos ⟨x % 2 ^ n, hl⟩ (by show x % 2 ^ n ≠ 0; omega)
      simp only at this
      omega
  · intro h0
    rw [h0, csm_zero]
theorem Joint_law {hB : Heap} {n : Int} {a b : Nat} {rows cols : Int} {x : Nat} (ha : a < 18446744073709551616) (hb : b < 18446744073709551616) (hx : x < 18446744073709551616) {R : Bool → Heap → Prop} (hR : ∀ h', Ext hB.size hB h' → R true h') : C_law36_QuorumJoint n (a : Int) (b : Int) rows cols (x : Int) hB R := by
  refine A_law36_QuorumJoint ?_
  unfold S_law36_QuorumJoint
  refine fixed_ok fun h1 E => brF ?_
  refine Joint_op ha hb fun o1 h2 e2 S1 => ?_
  have E := tr E e2
  refine Grid_op fun o2 h3 e3 S2 => ?_
  have S1 := S1.ext e3; have E := tr E e3
  refine join1 (s1 := .one .bool) (fun (y : Bool) g => (y = true ↔ ¬ (1 ≤ n ∧ n ≤ 7 ∧ a % 2 ^ n.toNat ≠ 0 ∧ b % 2 ^ n.toNat ≠ 0)) ∧ g = h3) (fun _ (y : Bool) g hJ => ?_) ?_
  · obtain ⟨hy, rfl⟩ := hJ
    refine join0 (fun g2 => Ext g.size g g2) (fun _ g2 e5 => ?_) ?_
    · have S2 := S2.ext e5; have E := tr E e5
      rcases S2 with ⟨hp, hok, d, rfl, T2⟩ | ⟨hp, rfl⟩
      · obtain ⟨r, rfl⟩ := Int.eq_ofNat_of_zero_le (show 0 ≤ rows by omega)
        obtain ⟨c, rfl⟩ := Int.eq_ofNat_of_zero_le (show 0 ≤ cols by omega)
        have hm := hp.2.2.2.2
        rw [← Int.natCast_mul] at hm
        have e1 : IntKind.i64.wrap ((r : Int) * (c : Int)) = ((r * c : Nat) : Int) := by rw [← Int.natCast_mul, w64 (by omega) (by omega)]
        rw [e1]
        refine brD (fun _ => by omega) fun _ => brD (fun _ => by omega) fun _ => brD (fun _ => by omega) fun _ => brD (fun _ => by omega) fun _ => brD (fun _ => by omega) fun _ => ?_
        simp only [Int.toNat_natCast] at hok T2
        exact tells_ok T2 hok (kq_g (by omega) (by omega) (by omega)) hx fun h6 e7 => hR _ (tr E e7)
      · refine brD (fun _ => hR _ E) fun h1 => brD (fun _ => hR _ E) fun h2 => brD (fun _ => hR _ E) fun h3 => brD (fun _ => hR _ E) fun h4 => ?_
        refine brD (fun _ => hR _ E) fun h5 => absurd ⟨by omega, by omega, by omega, by omega, ?_⟩ hp
        obtain ⟨r, rfl⟩ := Int.eq_ofNat_of_zero_le (show 0 ≤ rows by omega)
        obtain ⟨c, rfl⟩ := Int.eq_ofNat_of_zero_le (show 0 ≤ cols by omega)
        have hm : r * c ≤ 49 := Nat.mul_le_mul (by omega : r ≤ 7) (by omega : c ≤ 7)
        rw [← Int.natCast_mul, w64 (by omega) (by omega)] at h5
        rw [← Int.natCast_mul]
        omega
    · refine brB (fun hb1 => ?_) fun hb1 => ?_
      · rcases S1 with ⟨hp, _⟩ | ⟨_, rfl⟩
        · exact absurd hp (hy.1 hb1)
        · exact brF (Ext.refl _ _)
      · rcases S1 with ⟨hp, hok, d, rfl, T1⟩ | ⟨hp, _⟩
        · obtain ⟨m, rfl⟩ := Int.eq_ofNat_of_zero_le (show 0 ≤ n by omega)
          simp only [Int.toNat_natCast] at hok T1
          exact tells_ok T1 hok (kq_j (by omega) ha hb) hx fun h6 e7 => brF e7
        · rw [hy.2 hp] at hb1
          cases hb1
  · refine brD (fun h => ⟨⟨fun _ => by omega, fun _ => rfl⟩, rfl⟩) fun h => ?_
    refine brD (fun h => ⟨⟨fun _ => by omega, fun _ => rfl⟩, rfl⟩) fun h' => ?_
    obtain ⟨m, rfl⟩ := Int.eq_ofNat_of_zero_le (show 0 ≤ n by omega)
    have h7 : m ≤ 7 := by omega
    refine size_ok ha h7 ?_
    rw [Int.toNat_natCast]
    refine br beq_iff_eq (fun h0 => ⟨⟨fun _ => ?_, fun _ => rfl⟩, rfl⟩) fun h0 => ?_
    · rw [csm_zero_iff h7] at h0
      exact fun hh => hh.2.2.1 h0
    · rw [csm_zero_iff h7] at h0
      refine size_ok hb h7 ⟨?_, rfl⟩
      rw [beq_iff_eq, csm_zero_iff h7]
      exact ⟨fun hz hh => hh.2.2.2 hz, fun hn => by
        false_or_by_contra
        rename_i hz
        exact hn ⟨by omega, by omega, h0, hz⟩⟩
end Go.Proofs.Ytegbnmaglkpkjaa
