/-
  Layer 36 (quorum): the laws QuorumMeets and QuorumGrows.
-/
import Derived.Test.YtegbnmaglkpkjaaYi
namespace Go.Proofs.Ytegbnmaglkpkjaa
open Go

def eP : Enc (Option Addr) 1 := ⟨fun a => [.pointer a], fun _ => rfl, by decide, fun x u hu => by
  simp only [List.mem_cons, List.not_mem_nil, or_false] at hu
  subst hu; rfl⟩
theorem and_u8' {a b : Nat} (ha : a ≤ 255) (hb : b ≤ 255) : bitV .and .u8 a b = ((a &&& b : Nat) : Int) := by
  have hx : a &&& b < 2 ^ 8 := Nat.and_lt_two_pow _ (by omega)
  simp only [bitV]
  rw [BitVec.toNat_and, ofInt_nat _ a (by show a < 2 ^ 8; omega), ofInt_nat _ b (by show b < 2 ^ 8; omega), wrU8]
  omega
theorem brNone {o : Option Addr} {A B : Prop} (h1 : o = none → A) (h2 : ∀ a, o = some a → B) : cond o.isNone A B := by
  cases o with
  | none => exact h1 rfl
  | some a => exact h2 a rfl
/-- A system of the list, or none. -/
def SE (h : Heap) (Q : QR → Prop) (o : Option Addr) : Prop := ∀ a, o = some a → ∃ d n r, a = ⟨d, 0, none⟩ ∧ SysR h d n r ∧ r.ok n ∧ r.small ∧ Q r
theorem OptS.se {h : Heap} {o : Option Addr} {p : Prop} {n : Nat} {r : QR} {Q : QR → Prop} (S : OptS h o p n r) (hs : r.small) (hQ : Q r) : SE h Q o := by
  intro a ha
  rcases S with ⟨_, hok, d, rfl, S⟩ | ⟨_, rfl⟩
  · injection ha with ha
    exact ⟨d, n, r, ha.symm, S, hok, hs, hQ⟩
  · cases ha
theorem SE.ext {h h' : Heap} {Q : QR → Prop} {o : Option Addr} (S : SE h Q o) (e : Ext h.size h h') : SE h' Q o := fun a ha => by
  obtain ⟨d, n, r, h1, h2, h3⟩ := S a ha
  exact ⟨d, n, r, h1, h2.ext e, h3⟩
/-- The weights of the two laws. -/
theorem ws_loop {hB h : Heap} {l : Sl} {ws : List Int} {rest : Sl → Heap → Prop} (A : RdS hB 1 l (eU8.fl ws)) (hl : ws.length ≤ 7) (hw : ∀ x ∈ ws, 0 ≤ x ∧ x ≤ 255) (E : Ext hB.size hB h) (hR : ∀ s h', Ext hB.size hB h' → RdS h' 1 s (eN.fl (ws.map (· % 65))) → rest s h') :
    Loop [.one .sl, .one (.int .i64)] (fun _ (s : Sl) (x : Int) h_2 go =>
          (bif decide (x < (l.n : Int)) then
            Ix l x 1 fun e =>
            Ld (.int .u8) h_2 e fun (x1 : Int) =>
            Nz 65 (
            Alloc h_2 (.cells #[.int .i64 (IntKind.i64.wrap (divV .rem .u8 x1 65))] 3) fun b1 h_3 =>
            App Try.prog 51 51 s ⟨some b1, 1, 1⟩ h_3 fun s' h_4 =>
            go s' (IntKind.i64.wrap (x + 1)) h_4
            )
          else rest s h_2)) (⟨none, 0, 0⟩, 0, ()) h := by
  have hn := rdn A
  refine loop2 (s1 := .one .sl) (s2 := .one (.int .i64)) (fun (s : Sl) (y : Int) g => ∃ j : Nat, y = j ∧ j ≤ ws.length ∧ At hB g [.own s 1 (eN.fl ((ws.take j).map (· % 65)))]) (fun _ (y : Int) _ => (ws.length - y).toNat) ⟨0, rfl, Nat.zero_le _, (At.of_ext E).nil 1⟩ fun _ (s : Sl) (y : Int) g hI => ?_
  obtain ⟨j, rfl, hj, H⟩ := hI
  refine brD (fun hc => ?_) fun hc => ?_
  · have hj2 : j < ws.length := by omega
    have hx := hw _ (List.getElem_mem hj2)
    refine ixR (H.arg A) j rfl hj2 fun e he => ?_
    refine ldR0 (H.arg A) he hj2 ws[j] rfl (nz (by decide) ?_)
    rw [rem_nonneg hx.1, w64 (n := ws[j] % 65) (by omega) (by omega), w64 (n := (j : Int) + 1) (by omega) (by omega)]
    refine app1At (E := eN) TInt H 0 rfl (ws[j] % 65) (by simp; omega) (by simp; omega) fun s' h' H => ?_
    refine ⟨⟨j + 1, by omega, by omega, ?_⟩, by omega⟩
    rw [List.take_succ_eq_append_getElem hj2, List.map_append]
    exact H
  · obtain rfl : j = ws.length := by omega
    rw [List.take_length] at H
    exact hR s g H.ext (H.rdo 0 rfl)
theorem c7 {n : Int} (h0 : 0 ≤ n) : IntKind.i64.wrap (1 + IntKind.i64.wrap (divV .rem .u8 n 7)) = ((1 + (n % 7).toNat : Nat) : Int) := by
  rw [rem_nonneg h0, w64 (n := n % 7) (by omega) (by omega), w64 (by omega) (by omega)]
  omega
theorem r2 {n : Int} (h0 : 0 ≤ n) : IntKind.i64.wrap (1 + IntKind.i64.wrap (divV .rem .u8 n 2)) = ((1 + (n % 2).toNat : Nat) : Int) := by
  rw [rem_nonneg h0, w64 (n := n % 2) (by omega) (by omega), w64 (by omega) (by omega)]
  omega
theorem c3 {c : Nat} (h : c ≤ 7) : IntKind.i64.wrap (1 + divV .quo .i64 (c : Int) 3) = ((1 + c / 3 : Nat) : Int) := by
  rw [quo_i64 (by omega) (by omega) (by decide), w64 (by omega) (by omega)]
  omega
theorem ic {k : Nat} {c : Nat} (hk : k ≤ 255) (hc : 0 < c) (h7 : c ≤ 7) : IntKind.i64.wrap (1 + divV .rem .i64 (IntKind.i64.wrap (k : Int)) (c : Int)) = ((1 + k % c : Nat) : Int) := by
  have := Nat.mod_lt k hc
  rw [w64 (n := (k : Int)) (by omega) (by omega), rem_nonneg (by omega), ← Int.natCast_emod, w64 (by omega) (by omega)]
  omega
theorem mod_and_ne {x y n : Nat} (h : x % 2 ^ n &&& y % 2 ^ n ≠ 0) : x &&& y ≠ 0 := by
  intro h0
  rw [← and_mod2, h0, Nat.zero_mod] at h
  exact h rfl
theorem small_grid {r c : Nat} (hr : r ≤ 2) (hc : c ≤ 3) : (QR.g r c).small := ⟨hr, hc⟩
theorem meet_self {d n : Nat} {r : QR} {h : Heap} (S : SysR h d n r) (hok : r.ok n) (hs : r.small) (hk : ∀ c, r ≠ .k c) {R : Bool → Heap → Prop} (hR : ∀ h', Ext h.size h h' → R true h') : C_quorum_System_Meets (some ⟨d, 0, none⟩) (some ⟨d, 0, none⟩) h R := by
  refine Meets_ok S hok S hok fun h' e => ?_
  rw [meets_of fun a b ha hb qa qb => QR.meet hok hs (fun c hc => absurd hc (hk c)) a b ha hb qa qb]
  exact hR h' e
theorem j_meet1 {a b n : Nat} : meetsB (QR.q (.j a b)) (QR.q (.j a a)) n = true := meets_of fun u v _ _ (qu : (halfB a u && halfB b u) = true) (qv : (halfB a v && halfB a v) = true) => halfB_meet (Bool.and_eq_true_iff.1 qu).1 (Bool.and_eq_true_iff.1 qv).1
theorem j_meet2 {a b n : Nat} : meetsB (QR.q (.j a b)) (QR.q (.j b b)) n = true := meets_of fun u v _ _ (qu : (halfB a u && halfB b u) = true) (qv : (halfB b v && halfB b v) = true) => halfB_meet (Bool.and_eq_true_iff.1 qu).2 (Bool.and_eq_true_iff.1 qv).1
theorem Meets_law {hB : Heap} {l : Sl} {ws : List Int} {a b k m x y : Nat} {n rows : Int} (A : RdS hB 1 l (eU8.fl ws)) (hw : ∀ x ∈ ws, 0 ≤ x ∧ x ≤ 255) (ha : a ≤ 255) (hb : b ≤ 255) (hn : 0 ≤ n) (hrows : 0 ≤ rows) (hk : k ≤ 255) (hm : m ≤ 255) (hx : x ≤ 255) (hy : y ≤ 255) {R : Bool → Heap → Prop} (hR : ∀ h', Ext hB.size hB h' → R true h') : C_law36_QuorumMeets l (a : Int) (b : Int) n (k : Int) (m : Int) rows (x : Int) (y : Int) hB R := by
  have hwn := rdn A
  refine A_law36_QuorumMeets ?_
  unfold S_law36_QuorumMeets
  refine fixed_ok fun h1 E => brF ?_
  refine join1 (s1 := .one .bool) (fun (z : Bool) g => (z = true ↔ ¬ (1 ≤ ws.length ∧ ws.length ≤ 7)) ∧ g = h1) (fun _ (z : Bool) g hJ => ?_) ?_
  · obtain ⟨hz, rfl⟩ := hJ
    refine brB (fun _ => hR _ E) fun hz0 => ?_
    have hl : 1 ≤ ws.length ∧ ws.length ≤ 7 := by
      false_or_by_contra
      rename_i hcon
      rw [hz.2 hcon] at hz0
      cases hz0
    refine ws_loop A hl.2 hw E fun s h2 E A2 => ?_
    refine nz (by decide) (let_ (nz (by decide) (let_ ?_)))
    rw [c7 hn, r2 hrows, wu64 (n := (a : Int)) (by omega) (by omega), wu64 (n := (b : Int)) (by omega) (by omega)]
    have hc1 : 1 ≤ 1 + (n % 7).toNat ∧ 1 + (n % 7).toNat ≤ 7 := by omega
    have hr1 : 1 ≤ 1 + (rows % 2).toNat ∧ 1 + (rows % 2).toNat ≤ 2 := by omega
    generalize 1 + (n % 7).toNat = c at hc1 ⊢
    generalize 1 + (rows % 2).toNat = r at hr1 ⊢
    rw [c3 hc1.2]
    refine Weighted_op A2 (by simp; omega) fun o1 h3 e3 S1 => ?_
    have E := tr E e3
    refine Joint_op (by omega) (by omega) fun o2 h4 e4 S2 => ?_
    have S1 := S1.ext e4; have E := tr E e4
    refine nz (by decide) ?_
    refine Grid_op fun o3 h5 e5 S3 => ?_
    have S1 := S1.ext e5; have S2 := S2.ext e5; have E := tr E e5
    refine Most_op fun o4 h6 e6 S4 => ?_
    have S1 := S1.ext e6; have S2 := S2.ext e6; have S3 := S3.ext e6; have E := tr E e6
    simp only [Int.toNat_natCast] at S2 S3 S4
    refine allocAt (cs := [.pointer o1, .pointer o2, .pointer o3, .pointer o4]) (At.start h6) fun h7 b2 H => ?_
    have e7 : Ext h6.size h6 h7 := H.ext
    have S1 := S1.ext e7; have S2 := S2.ext e7; have S3 := S3.ext e7; have S4 := S4.ext e7; have E := tr E e7
    have AP : RdS h7 1 ⟨some ⟨b2, 0, none⟩, 4, 4⟩ (eP.fl [o1, o2, o3, o4]) := (Own.full (H.get 0 rfl : Blk h7 b2 _ _) (sz := 1) (n := 4) rfl (by decide)).rd
    have hSE : ∀ o ∈ [o1, o2, o3, o4], SE h7 (fun r => ∀ c, r ≠ .k c) o := by
      intro o ho
      simp only [List.mem_cons, List.not_mem_nil, or_false] at ho
      rcases ho with rfl | rfl | rfl | rfl
      · exact S1.se trivial fun c hc => by cases hc
      · exact S2.se trivial fun c hc => by cases hc
      · exact S3.se (small_grid hr1.2 (by omega)) fun c hc => by cases hc
      · exact S4.se trivial fun c hc => by cases hc
    refine loop1 (s1 := .one (.int .i64)) (fun (z : Int) g => ∃ j : Nat, z = j ∧ j ≤ 4 ∧ Ext h7.size h7 g) (fun (z : Int) _ => (4 - z).toNat) ⟨0, rfl, by decide, Ext.refl _ _⟩ fun _ (z : Int) g hI => ?_
    obtain ⟨j, rfl, hj, eg⟩ := hI
    have S2 := S2.ext eg; have E := tr E eg
    refine brD (fun hc => ?_) fun hc => ?_
    · have hj2 : j < 4 := by omega
      refine ixR (AP.ext' eg) j rfl hj2 fun e he => ?_
      refine ldR0 (kd := .ptr) (AP.ext' eg) he hj2 [o1, o2, o3, o4][j] rfl ?_
      have hse := (hSE _ (List.getElem_mem hj2)).ext eg
      rw [w64 (n := (j : Int) + 1) (by omega) (by omega)]
      have hgo : ∀ g', Ext g.size g g' → (∃ i : Nat, ((j : Int) + 1 = i) ∧ i ≤ 4 ∧ Ext h7.size h7 g') ∧ (4 - ((j : Int) + 1)).toNat < (4 - (j : Int)).toNat := fun g' e' => ⟨⟨j + 1, by omega, by omega, tr eg e'⟩, by omega⟩
      refine brNone (fun _ => hgo _ (Ext.refl _ _)) fun a2 ha2 => ?_
      obtain ⟨d, n', q, rfl, S, hok, hs, hQ⟩ := hse _ ha2
      have ha2' : [o1, o2, o3, o4][j] = some ⟨d, 0, none⟩ := ha2
      rw [ha2']
      have hn7 := QR.ok7 hok
      have hp := Nat.two_pow_pos n'
      refine meet_self S hok hs hQ fun g1 e1 => brF ?_
      rw [wu64 (n := (x : Int)) (by omega) (by omega), wu64 (n := (y : Int)) (by omega) (by omega)]
      refine is_ok (S.ext e1) hok (by omega) fun g2 e2 => ?_
      refine brB (fun hqx => ?_) fun _ => hgo _ (tr e1 e2)
      refine is_ok (S.ext (tr e1 e2)) hok (by omega) fun g3 e3 => ?_
      refine brB (fun hqy => ?_) fun _ => hgo _ (tr e1 (tr e2 e3))
      rw [and_u8' hx hy]
      refine br beq_iff_eq (fun h0 => ?_) fun _ => hgo _ (tr e1 (tr e2 e3))
      have := QR.meet hok hs (fun c hc => absurd hc (hQ c)) _ _ (Nat.mod_lt x hp) (Nat.mod_lt y hp) hqx hqy
      exact absurd (by omega) (mod_and_ne this)
    · refine nz (by omega) (nz (by omega) ?_)
      rw [ic hk (by omega) hc1.2, ic hm (by omega) hc1.2]
      refine let_ (let_ ?_)
      have hkc := Nat.mod_lt k (by omega : 0 < c)
      have hmc := Nat.mod_lt m (by omega : 0 < c)
      have mk := meets_at ⟨c, by omega⟩ ⟨1 + k % c, by omega⟩ ⟨1 + m % c, by omega⟩ (Nat.lt_of_lt_of_le (by decide : 0 < 1) (Nat.le_add_right 1 (k % c))) (Nat.lt_of_lt_of_le (by decide : 0 < 1) (Nat.le_add_right 1 (m % c))) (by show 1 + k % c ≤ c; omega) (by show 1 + m % c ≤ c; omega)
      simp only at mk
      have ok1 : (QR.k ((1 + k % c : Nat) : Int)).ok c := ⟨by omega, by omega, hc1.2⟩
      have ok2 : (QR.k ((1 + m % c : Nat) : Int)).ok c := ⟨by omega, by omega, hc1.2⟩
      refine AtLeast_ok (fun c' hc' _ d1 g1 f1 T1 => ?_) fun hno => absurd ⟨by omega, by omega, by omega, by omega⟩ hno
      obtain rfl : c = c' := by omega
      have S2 := S2.ext f1; have E := tr E f1
      refine AtLeast_ok (fun c' hc' _ d2 g2 f2 T2 => ?_) fun hno => absurd ⟨by omega, by omega, by omega, by omega⟩ hno
      obtain rfl : c = c' := by omega
      have S2 := S2.ext f2; have T1 := T1.ext f2; have E := tr E f2
      refine Meets_ok T1 ok1 T2 ok2 fun g3 f3 => ?_
      have S2 := S2.ext f3; have E := tr E f3
      rw [mk, w64 (by omega) (by omega)]
      refine brN ?_ ?_
      · have : decide (1 + k % c + (1 + m % c) > c) = decide ((((1 + k % c : Nat) : Int) + ((1 + m % c : Nat) : Int)) > (c : Int)) := by
          rw [Bool.eq_iff_iff, decide_eq_true_iff, decide_eq_true_iff]; omega
        rw [this, beq_self_eq_true]; rfl
      refine ixR (AP.ext' (tr eg (tr f1 (tr f2 f3)))) 1 rfl (by show 1 < 4; decide) fun e he => ?_
      refine ldR0 (kd := .ptr) (AP.ext' (tr eg (tr f1 (tr f2 f3)))) he (by show 1 < 4; decide) o2 rfl ?_
      rcases S2 with ⟨⟨_, _, p3, p4⟩, hok, d, rfl, T⟩ | ⟨_, rfl⟩
      · refine brNS ?_
        refine Joint_ok (a := a) (b := a) (by omega) (by omega) (fun c' hc' _ hok' d' g4 f4 T' => ?_) fun hno => ?_
        · obtain rfl : c = c' := by omega
          have T := T.ext f4
          have E := tr E f4
          refine Meets_ok T hok T' hok' fun g5 f5 => ?_
          rw [j_meet1]
          have T := T.ext f5
          have E := tr E f5
          refine brT ?_
          refine Joint_ok (a := b) (b := b) (by omega) (by omega) (fun c' hc' _ hok' d' g6 f6 T' => ?_) fun hno => ?_
          · obtain rfl : c = c' := by omega
            have T := T.ext f6
            have E := tr E f6
            refine Meets_ok T hok T' hok' fun g7 f7 => ?_
            rw [j_meet2]
            exact hR _ (tr E f7)
          · rcases hno c rfl (by omega) hc1.2 with h0 | h0
            · exact absurd h0 p4
            · exact absurd h0 p4
        · rcases hno c rfl (by omega) hc1.2 with h0 | h0
          · exact absurd h0 p3
          · exact absurd h0 p3
      · exact hR _ E
  · refine brD (fun h => ⟨⟨fun _ => by omega, fun _ => rfl⟩, rfl⟩) fun h => ⟨?_, rfl⟩
    rw [decide_eq_true_iff]
    omega
theorem sub_mod {z x n : Nat} (hz : z < 2 ^ n) (h : z &&& x = z) : Sub z (x % 2 ^ n) := fun i hi => by
  rw [Nat.testBit_mod_two_pow, decide_eq_true (bit_lt hz hi), Bool.true_and]
  exact Sub.of_and h i hi
theorem sub_or {x y n : Nat} : Sub (x % 2 ^ n) ((x ||| y) % 2 ^ n) := fun i hi => by
  rw [Nat.testBit_mod_two_pow, Bool.and_eq_true_iff] at hi ⊢
  refine ⟨hi.1, ?_⟩
  rw [Nat.testBit_or, hi.2]; rfl
theorem in_least {r : QR} {n x : Nat} (Q : QL r.q n) : ((leastL r.q n).any fun z => decide (z &&& x = z)) = r.q (x % 2 ^ n) := by
  have hx := Nat.mod_lt x (Nat.two_pow_pos n)
  rw [Bool.eq_iff_iff, List.any_eq_true]
  constructor
  · rintro ⟨z, hz, he⟩
    obtain ⟨h1, h2⟩ := mem_least.1 hz
    exact Q.mono z _ h1 hx (sub_mod h1 (of_decide_eq_true he)) (Bool.and_eq_true_iff.1 h2).1
  · intro hq
    obtain ⟨z, hz, hs⟩ := least_in Q.n7 (x % 2 ^ n + 1) _ (Nat.lt_succ_self _) hx hq
    refine ⟨z, hz, decide_eq_true ?_⟩
    refine Nat.eq_of_testBit_eq fun i => ?_
    rw [Nat.testBit_and]
    cases hb : z.testBit i with
    | false => rfl
    | true =>
      have := hs i hb
      rw [Nat.testBit_mod_two_pow, Bool.and_eq_true_iff] at this
      rw [this.2]; rfl
theorem grow_body {g : Heap} {d n x y : Nat} {q : QR} (S : SysR g d n q) (hok : q.ok n) (hs : q.small) (hx : x < 18446744073709551616) (hy : y < 18446744073709551616) {R : Bool → Heap → Prop} {go : Heap → Prop} (hgo : ∀ g', Ext g.size g g' → go g') :
                  C_quorum_System_Nodes (some ⟨d, 0, none⟩) g fun (r5 : Int) h_11 =>
                  Nneg (IntKind.u64.wrap r5) (
                  Let (IntKind.u64.wrap ((shiftV .shl .u64 1 (IntKind.u64.wrap r5)) - 1) : Int) fun all =>
                  Join [.one .bool] (fun _ (x119 : Bool) h_12 =>
                    (bif x119 then
                      R false h_12
                    else
                      C_quorum_System_Least (some ⟨d, 0, none⟩) h_12 fun (r6 : Sl) h_13 =>
                      Loop [.one .bool, .one (.int .i64)] (fun _ (in_ : Bool) (x123 : Int) h_14 go2 =>
                        (bif decide (x123 < (r6.n : Int)) then
                          Ix r6 x123 1 fun e2 =>
                          Ld (.int .u64) h_14 e2 fun (x3 : Int) =>
                          (bif in_ then
                            go2 true (IntKind.i64.wrap (x123 + 1)) h_14
                          else
                            Let ((bitV .and .u64 x3 (x : Int)) == x3 : Bool) fun in_1 =>
                            go2 in_1 (IntKind.i64.wrap (x123 + 1)) h_14
                          )
                        else
                          C_quorum_System_Is (some ⟨d, 0, none⟩) (x : Int) h_14 fun (r7 : Bool) h_15 =>
                          (bif !(in_ == r7) then
                            R false h_15
                          else
                            go h_15
                          )
                        )
                        ) (false, 0, ()) h_13
                    )
                    ) fun J1 =>
                  C_quorum_System_Is (some ⟨d, 0, none⟩) (x : Int) h_11 fun (r8 : Bool) h_16 =>
                  (bif r8 then
                    C_quorum_System_Is (some ⟨d, 0, none⟩) (bitV .or .u64 (x : Int) (y : Int)) h_16 fun (r9 : Bool) h_17 =>
                    (bif !r9 then
                      J1 true h_17
                    else
                      C_quorum_System_Is (some ⟨d, 0, none⟩) (x : Int) h_17 fun (r10 : Bool) h_18 =>
                      C_quorum_System_Is (some ⟨d, 0, none⟩) (bitV .and .u64 (x : Int) all) h_18 fun (r11 : Bool) h_19 =>
                      (bif !(r10 == r11) then
                        J1 true h_19
                      else
                        C_quorum_System_Is (some ⟨d, 0, none⟩) all h_19 fun (r12 : Bool) h_20 =>
                        (bif !r12 then
                          J1 true h_20
                        else
                          C_quorum_System_Is (some ⟨d, 0, none⟩) 0 h_20 fun (r13 : Bool) h_21 =>
                          J1 r13 h_21
                        )
                      )
                    )
                  else
                    C_quorum_System_Is (some ⟨d, 0, none⟩) (x : Int) h_16 fun (r14 : Bool) h_22 =>
                    C_quorum_System_Is (some ⟨d, 0, none⟩) (bitV .and .u64 (x : Int) all) h_22 fun (r15 : Bool) h_23 =>
                    (bif !(r14 == r15) then
                      J1 true h_23
                    else
                      C_quorum_System_Is (some ⟨d, 0, none⟩) all h_23 fun (r16 : Bool) h_24 =>
                      (bif !r16 then
                        J1 true h_24
                      else
                        C_quorum_System_Is (some ⟨d, 0, none⟩) 0 h_24 fun (r17 : Bool) h_25 =>
                        J1 r17 h_25
                      )
                    )
                  )
                  ) := by
  have hn := QR.ok7 hok
  have p1 := pow128 hn
  have p2 := Nat.two_pow_pos n
  have Q := QR.ql hok hs
  have hxm := Nat.mod_lt x p2
  refine Nodes_ok S ?_
  have un : IntKind.u64.wrap (n : Int) = n := wu64 (by omega) (by omega)
  have e0 := all_eq ⟨n, by omega⟩
  simp only at e0
  refine nneg (by rw [un]; omega) (let_ ?_)
  rw [e0, and_mod hx hn, or_u64' hx hy]
  refine join1 (s1 := .one .bool) (fun (b : Bool) g' => b = false ∧ Ext g.size g g') (fun _ (b : Bool) g' hJ => ?_) ?_
  · obtain ⟨rfl, e1⟩ := hJ
    refine brF ?_
    refine Least_ok (S.ext e1) hok fun s h2 e2 A => ?_
    have hln := leastL_len (q := q.q) hn
    have hsn := rdn A
    refine loop2 (s1 := .one .bool) (s2 := .one (.int .i64)) (fun (b : Bool) (z : Int) g2 => ∃ j : Nat, z = j ∧ j ≤ (leastL q.q n).length ∧ b = (((leastL q.q n).take j).any fun z => decide (z &&& x = z)) ∧ g2 = h2) (fun (_ : Bool) (z : Int) _ => ((leastL q.q n).length - z).toNat) ⟨0, rfl, Nat.zero_le _, rfl, rfl⟩ fun _ (b : Bool) (z : Int) g2 hI => ?_
    obtain ⟨j, rfl, hj, hb, rfl⟩ := hI
    refine brD (fun hc => ?_) fun hc => ?_
    · have hj2 : j < (leastL q.q n).length := by omega
      have hz := leastL_lt (q := q.q) hn _ (List.getElem_mem hj2)
      refine ixR A j rfl hj2 fun e he => ?_
      refine ldR0 A he hj2 (((leastL q.q n)[j] : Nat) : Int) rfl ?_
      rw [w64 (n := (j : Int) + 1) (by omega) (by omega)]
      have hst := List.take_succ_eq_append_getElem hj2
      refine brB (fun hbt => ?_) fun hbf => let_ ?_
      · refine ⟨⟨j + 1, by omega, by omega, ?_, rfl⟩, by omega⟩
        rw [hst, List.any_append, ← hb, hbt]; rfl
      · refine ⟨⟨j + 1, by omega, by omega, ?_, rfl⟩, by omega⟩
        rw [hst, List.any_append, ← hb, hbf, Bool.false_or, List.any_cons, List.any_nil, Bool.or_false, and_u64' (by omega) hx, Bool.eq_iff_iff, beq_iff_eq, decide_eq_true_iff]
        omega
    · obtain rfl : j = (leastL q.q n).length := by omega
      rw [List.take_length, in_least Q] at hb
      refine is_ok (S.ext (tr e1 e2)) hok hx fun h3 e3 => ?_
      rw [hb]
      refine brN (by simp) (hgo _ (tr e1 (tr e2 e3)))
  · refine is_ok S hok hx fun h1 e1 => ?_
    have S1 := S.ext e1
    have hmm : x % 2 ^ n % 2 ^ n = x % 2 ^ n := Nat.mod_mod _ _
    have htm : (2 ^ n - 1) % 2 ^ n = 2 ^ n - 1 := Nat.mod_eq_of_lt (by omega)
    refine brB (fun hq => ?_) fun hq => ?_
    · have hor : x ||| y < 18446744073709551616 := by rw [lit64] at hx hy ⊢; exact Nat.or_lt_two_pow hx hy
      refine is_ok S1 hok hor fun h2 e2 => ?_
      have S2 := S1.ext e2
      rw [Q.mono _ _ hxm (Nat.mod_lt _ p2) sub_or hq]
      refine brF ?_
      refine is_ok S2 hok hx fun h3 e3 => ?_
      have S3 := S2.ext e3
      refine is_ok S3 hok (by omega) fun h4 e4 => ?_
      have S4 := S3.ext e4
      rw [hmm]
      refine brN (by simp) ?_
      refine is_ok S4 hok (by omega) fun h5 e5 => ?_
      have S5 := S4.ext e5
      rw [htm, Q.top]
      refine brF ?_
      refine is_ok (x := 0) S5 hok (by omega) fun h6 e6 => ?_
      rw [Nat.zero_mod, Q.bot]
      exact ⟨rfl, tr e1 (tr e2 (tr e3 (tr e4 (tr e5 e6))))⟩
    · refine is_ok S1 hok hx fun h3 e3 => ?_
      have S3 := S1.ext e3
      refine is_ok S3 hok (by omega) fun h4 e4 => ?_
      have S4 := S3.ext e4
      rw [hmm]
      refine brN (by simp) ?_
      refine is_ok S4 hok (by omega) fun h5 e5 => ?_
      have S5 := S4.ext e5
      rw [htm, Q.top]
      refine brF ?_
      refine is_ok (x := 0) S5 hok (by omega) fun h6 e6 => ?_
      rw [Nat.zero_mod, Q.bot]
      exact ⟨rfl, tr e1 (tr e3 (tr e4 (tr e5 e6)))⟩
theorem Grows_law {hB : Heap} {l : Sl} {ws : List Int} {a b x y : Nat} {n rows : Int} (A : RdS hB 1 l (eU8.fl ws)) (hw : ∀ x ∈ ws, 0 ≤ x ∧ x ≤ 255) (ha : a ≤ 255) (hb : b ≤ 255) (hn : 0 ≤ n) (hrows : 0 ≤ rows) (hx : x < 18446744073709551616) (hy : y < 18446744073709551616) {R : Bool → Heap → Prop} (hR : ∀ h', Ext hB.size hB h' → R true h') : C_law36_QuorumGrows l (a : Int) (b : Int) n rows (x : Int) (y : Int) hB R := by
  have hwn := rdn A
  refine A_law36_QuorumGrows ?_
  unfold S_law36_QuorumGrows
  refine fixed_ok fun h1 E => brF ?_
  refine join1 (s1 := .one .bool) (fun (z : Bool) g => (z = true ↔ ¬ (1 ≤ ws.length ∧ ws.length ≤ 7)) ∧ g = h1) (fun _ (z : Bool) g hJ => ?_) ?_
  · obtain ⟨hz, rfl⟩ := hJ
    refine brB (fun _ => hR _ E) fun hz0 => ?_
    have hl : 1 ≤ ws.length ∧ ws.length ≤ 7 := by
      false_or_by_contra
      rename_i hcon
      rw [hz.2 hcon] at hz0
      cases hz0
    refine ws_loop A hl.2 hw E fun s h2 E A2 => ?_
    refine nz (by decide) (let_ (nz (by decide) (nz (by decide) ?_)))
    rw [c7 hn, r2 hrows, wu64 (n := (a : Int)) (by omega) (by omega), wu64 (n := (b : Int)) (by omega) (by omega)]
    have hc1 : 1 ≤ 1 + (n % 7).toNat ∧ 1 + (n % 7).toNat ≤ 7 := by omega
    have hr1 : 1 ≤ 1 + (rows % 2).toNat ∧ 1 + (rows % 2).toNat ≤ 2 := by omega
    generalize 1 + (n % 7).toNat = c at hc1 ⊢
    generalize 1 + (rows % 2).toNat = r at hr1 ⊢
    rw [c3 hc1.2, ic ha (by omega) hc1.2]
    refine nz (by omega) ?_
    refine Weighted_op A2 (by simp; omega) fun o1 h3 e3 S1 => ?_
    have E := tr E e3
    refine Joint_op (by omega) (by omega) fun o2 h4 e4 S2 => ?_
    have S1 := S1.ext e4; have E := tr E e4
    refine Grid_op fun o3 h5 e5 S3 => ?_
    have S1 := S1.ext e5; have S2 := S2.ext e5; have E := tr E e5
    refine AtLeast_op fun o4 h6 e6 S4 => ?_
    have S1 := S1.ext e6; have S2 := S2.ext e6; have S3 := S3.ext e6; have E := tr E e6
    simp only [Int.toNat_natCast] at S2 S3 S4
    refine allocAt (cs := [.pointer o1, .pointer o2, .pointer o3, .pointer o4]) (At.start h6) fun h7 b2 H => ?_
    have e7 : Ext h6.size h6 h7 := H.ext
    have S1 := S1.ext e7; have S2 := S2.ext e7; have S3 := S3.ext e7; have S4 := S4.ext e7; have E := tr E e7
    have AP : RdS h7 1 ⟨some ⟨b2, 0, none⟩, 4, 4⟩ (eP.fl [o1, o2, o3, o4]) := (Own.full (H.get 0 rfl : Blk h7 b2 _ _) (sz := 1) (n := 4) rfl (by decide)).rd
    have hSE : ∀ o ∈ [o1, o2, o3, o4], SE h7 (fun _ => True) o := by
      intro o ho
      simp only [List.mem_cons, List.not_mem_nil, or_false] at ho
      rcases ho with rfl | rfl | rfl | rfl
      · exact S1.se trivial trivial
      · exact S2.se trivial trivial
      · exact S3.se (small_grid hr1.2 (by omega)) trivial
      · exact S4.se trivial trivial
    refine loop1 (s1 := .one (.int .i64)) (fun (z : Int) g => ∃ j : Nat, z = j ∧ j ≤ 4 ∧ Ext h7.size h7 g) (fun (z : Int) _ => (4 - z).toNat) ⟨0, rfl, by decide, Ext.refl _ _⟩ fun _ (z : Int) g hI => ?_
    obtain ⟨j, rfl, hj, eg⟩ := hI
    refine brD (fun hc => ?_) fun hc => ?_
    · have hj2 : j < 4 := by omega
      refine ixR (AP.ext' eg) j rfl hj2 fun e he => ?_
      refine ldR0 (kd := .ptr) (AP.ext' eg) he hj2 [o1, o2, o3, o4][j] rfl ?_
      have hse := (hSE _ (List.getElem_mem hj2)).ext eg
      rw [w64 (n := (j : Int) + 1) (by omega) (by omega)]
      have hgo : ∀ g', Ext g.size g g' → (∃ i : Nat, ((j : Int) + 1 = i) ∧ i ≤ 4 ∧ Ext h7.size h7 g') ∧ (4 - ((j : Int) + 1)).toNat < (4 - (j : Int)).toNat := fun g' e' => ⟨⟨j + 1, by omega, by omega, tr eg e'⟩, by omega⟩
      refine brNone (fun _ => hgo _ (Ext.refl _ _)) fun a2 ha2 => ?_
      obtain ⟨d, n', q, rfl, S, hok, hs, _⟩ := hse _ ha2
      have ha2' : [o1, o2, o3, o4][j] = some ⟨d, 0, none⟩ := ha2
      rw [ha2']
      exact grow_body S hok hs hx hy hgo
    · exact hR _ (tr E eg)
  · refine brD (fun h => ⟨⟨fun _ => by omega, fun _ => rfl⟩, rfl⟩) fun h => ⟨?_, rfl⟩
    rw [decide_eq_true_iff]
    omega
theorem law36_QuorumMeets_ok {l : Sl} {hB : Heap} {ws : List Int} {a b n k m rows x y : Int} (w0 : RdS hB 1 l (eU8.fl ws) ∧ ∀ x ∈ ws, 0 ≤ x ∧ x ≤ 255) (w1 : 0 ≤ a ∧ a ≤ 255) (w2 : 0 ≤ b ∧ b ≤ 255) (w3 : 0 ≤ n ∧ n ≤ 255) (w4 : 0 ≤ k ∧ k ≤ 255) (w5 : 0 ≤ m ∧ m ≤ 255) (w6 : 0 ≤ rows ∧ rows ≤ 255) (w7 : 0 ≤ x ∧ x ≤ 255) (w8 : 0 ≤ y ∧ y ≤ 255) : C_law36_QuorumMeets l a b n k m rows x y hB fun r h' => r = true ∧ Ext hB.size hB h' := by
  obtain ⟨a, rfl⟩ := Int.eq_ofNat_of_zero_le w1.1
  obtain ⟨b, rfl⟩ := Int.eq_ofNat_of_zero_le w2.1
  obtain ⟨k, rfl⟩ := Int.eq_ofNat_of_zero_le w4.1
  obtain ⟨m, rfl⟩ := Int.eq_ofNat_of_zero_le w5.1
  obtain ⟨x, rfl⟩ := Int.eq_ofNat_of_zero_le w7.1
  obtain ⟨y, rfl⟩ := Int.eq_ofNat_of_zero_le w8.1
  exact Meets_law w0.1 w0.2 (by omega) (by omega) w3.1 w6.1 (by omega) (by omega) (by omega) (by omega) fun h' e => ⟨rfl, e⟩
theorem law36_QuorumGrows_ok {l : Sl} {hB : Heap} {ws : List Int} {a b n rows x y : Int} (w0 : RdS hB 1 l (eU8.fl ws) ∧ ∀ x ∈ ws, 0 ≤ x ∧ x ≤ 255) (w1 : 0 ≤ a ∧ a ≤ 255) (w2 : 0 ≤ b ∧ b ≤ 255) (w3 : 0 ≤ n ∧ n ≤ 255) (w4 : 0 ≤ rows ∧ rows ≤ 255) (w5 : 0 ≤ x ∧ x ≤ 18446744073709551615) (w6 : 0 ≤ y ∧ y ≤ 18446744073709551615) : C_law36_QuorumGrows l a b n rows x y hB fun r h' => r = true ∧ Ext hB.size hB h' := by
  obtain ⟨a, rfl⟩ := Int.eq_ofNat_of_zero_le w1.1
  obtain ⟨b, rfl⟩ := Int.eq_ofNat_of_zero_le w2.1
  obtain ⟨x, rfl⟩ := Int.eq_ofNat_of_zero_le w5.1
  obtain ⟨y, rfl⟩ := Int.eq_ofNat_of_zero_le w6.1
  exact Grows_law w0.1 w0.2 (by omega) (by omega) w3.1 w4.1 (by omega) (by omega) fun h' e => ⟨rfl, e⟩
end Go.Proofs.Ytegbnmaglkpkjaa
