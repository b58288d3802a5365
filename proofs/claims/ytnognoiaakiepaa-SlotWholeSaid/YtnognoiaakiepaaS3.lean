/-
  Layer 33 (slot): arguments, what the document fixes, few; the law SlotSpoilt over the heap alone.
-/
import Derived.Test.YtnognoiaakiepaaS2
import Derived.Test.YtnognoiaakiepaaF3
import Derived.Test.YtnognoiaakiepaaSSL
import Derived.Test.YtnognoiaakiepaaH
namespace Go.Proofs.Ytnognoiaakiepaa
open Go

structure AS where
  kind : UInt8
  s : Sl
  xs : List UInt8
  steps : Int
  keep : Int
  at_ : Int
  by_ : UInt8
def eAS : Enc AS 6 := ⟨fun a => [.int .u8 (a.kind.toNat : Nat), .slice a.s.a a.s.n a.s.c, .int .i64 a.steps, .int .i64 a.keep, .int .i64 a.at_, .int .u8 (a.by_.toNat : Nat)], fun _ => rfl, by decide, fun x u hu => by
  simp only [List.mem_cons, List.not_mem_nil, or_false] at hu
  rcases hu with rfl | rfl | rfl | rfl | rfl | rfl <;> rfl⟩
def ArgA (h : Heap) (s : Sl) (l : List AS) : Prop := RdS h 6 s (eAS.fl l) ∧ ∀ a ∈ l, RdS h 1 a.s (cB a.xs)
def ArgB (h : Heap) (s : Sl) (l : List BA) : Prop := RdS h 1 s (eBA.fl l) ∧ ∀ a ∈ l, RdS h 1 a.s (cB a.xs)
theorem litF {h : Heap} (xs : List UInt8) (n : Nat) (hn : n = xs.length) {K : Sl → Heap → Prop} (hm : n ≤ 9223372036854775807) (hk : ∀ s' h', Own h' 1 s' (cB xs) → s'.from_ h.size → Ext h.size h h' → K s' h') :
    Alloc h (.cells (cB xs).toArray 5) fun b h1 => Frz Try.prog 22 22 ⟨some b, n, n⟩ h1 K := by
  subst hn
  refine alloc (cs := cB xs) fun h1 b1 e1 z1 => frz BT b1 fun h2 b2 u2 z2 => ?_
  exact hk _ h2 (Own.full b2 (sz := 1) (n := xs.length) (by rw [cB_length, Nat.mul_one]) hm) (fun g hg => by simp [Sl.blk] at hg; omega) (e1.trans (u2.ext1 (Nat.le_refl _) (by omega)))
theorem ZB : ZeroT Try.prog 5 [.int .u8 0] := ⟨by kernel_rfl⟩
theorem zeroB (n : Nat) : (List.replicate n [Value.int .u8 0]).flatten = cB (List.replicate n 0) := by
  induction n with
  | zero => rfl
  | succ n ih => rw [List.replicate_succ, List.replicate_succ, List.flatten_cons, ih]; rfl
def fxA : List UInt8 := slotB 1 [97]
def fxC : List UInt8 := slotB 2 [99]
set_option maxRecDepth 100000 in
theorem fx_nil : newestS [] [] = (0, [], 0) := by kernel_rfl
set_option maxRecDepth 100000 in
theorem fx_a : newestS fxA [] = (0, [97], 1) := by kernel_rfl
set_option maxRecDepth 100000 in
theorem fx_c : newestS fxA fxC = (1, [99], 2) := by kernel_rfl
set_option maxRecDepth 100000 in
theorem fx_p1 : twoS (atS [] []) [] [] (slotB ((newestS [] []).2.2 + 1) [97]) = (fxA, []) := by kernel_rfl
set_option maxRecDepth 100000 in
theorem fx_p2 : twoS (atS fxA []) fxA [] (tornS (selS (atS fxA []) fxA []) (slotB ((newestS fxA []).2.2 + 1) [98]) 2 0 (-1) 0) = (fxA, []) := by kernel_rfl
set_option maxRecDepth 100000 in
theorem fx_p3 : twoS (atS fxA []) fxA [] (slotB ((newestS fxA []).2.2 + 1) [99]) = (fxA, fxC) := by kernel_rfl
set_option maxRecDepth 100000 in
set_option maxHeartbeats 1000000 in
theorem law33_fixed_ok {h : Heap} {R : Bool → Heap → Prop} (hR : ∀ h', Ext h.size h h' → R true h') : C_law33_fixed h R := by
  refine A_law33_fixed ?_
  unfold S_law33_fixed
  have lA : fxA.length = 17 := slotB_length 1 [97]
  have lC : fxC.length = 17 := slotB_length 2 [99]
  refine slot_New_ok (At.start h) fun h1 p z H => ?_
  refine slot_Read_ok H (by simp) (by simp) fun r2 h2 o2 f2 e2 => ?_
  have H := H.ext' e2
  refine litF [97] 1 rfl (by decide) fun s3 h3 o3 f3 e3 => ?_
  have H := H.ext' e3
  refine slot_Install_ok H o3.rd (by simp) (by simp) (fun hl => absurd hl (by decide)) (fun _ hn => absurd hn (by rw [fx_nil]; decide)) fun _ _ h4 z4 H => ?_
  rw [fx_p1] at H
  refine litF [98] 1 rfl (by decide) fun s5 h5 o5 f5 e5 => ?_
  have H := H.ext' e5
  refine slot_Torn_ok (y := 0) H o5.rd rfl (by show fxA.length ≤ _; omega) (by simp) (fun hl => absurd hl (by decide)) (fun _ hn => absurd hn (by rw [fx_a]; decide)) fun _ _ h6 z6 H => ?_
  rw [fx_p2] at H
  refine slot_Read_ok H (by show fxA.length ≤ _; omega) (by simp) fun r7 h7 o7 f7 e7 => ?_
  rw [fx_a] at o7 ⊢
  have H := (H.new e7 (r := .own r7 1 (cB [97])) o7 f7).mv 1 5
  refine litF [99] 1 rfl (by decide) fun s8 h8 o8 f8 e8 => ?_
  have H := H.ext' e8
  refine slot_Install_ok (F := [.own r7 1 (cB [97])]) H o8.rd (by show fxA.length ≤ _; omega) (by simp) (fun hl => absurd hl (by decide)) (fun _ hn => absurd hn (by rw [fx_a]; decide)) fun _ _ h9 z9 H => ?_
  rw [fx_p3] at H
  refine slot_Read_ok (F := [.own r7 1 (cB [97])]) H (by show fxA.length ≤ _; omega) (by show fxC.length ≤ _; omega) fun r10 h10 o10 f10 e10 => ?_
  rw [fx_c] at o10 ⊢
  have H := (H.new e10 (r := .own r10 1 (cB [99])) o10 f10).mv 1 5
  refine mk TB ZB 4089 4089 rfl rfl (Nat.le_refl _) (by decide) (by decide) fun h11 b11 e11 z11 => ?_
  rw [zeroB] at b11
  have o11 : Own h11 1 ⟨some ⟨h10.size, 0, none⟩, 4089, 4089⟩ (cB (List.replicate 4089 0)) := Own.full b11 (sz := 1) (n := 4089) (by rw [cB_length, List.length_replicate]) (by decide)
  have H := H.ext' e11
  refine slot_Install_ok (F := [.own r10 1 (cB [99]), .own r7 1 (cB [97])]) H o11.rd (by show fxA.length ≤ _; omega) (by show fxC.length ≤ _; omega) (fun _ => ?_) (fun hl => absurd hl (by rw [List.length_replicate]; decide)) fun hl => absurd hl (by rw [List.length_replicate]; decide)
  refine slot_Read_nil ?_
  rw [fx_nil]
  refine brY rfl (brY rfl (brY rfl (toS BT (H.rdo 6 rfl) (brY (by rw [strB_toList, show (⟨#[97]⟩ : ByteArray).toList = [97] from strB_toList [97]]; rfl) ?_))))
  refine brY rfl (brY rfl (brY rfl (toS BT (H.rdo 5 rfl) (brY (by rw [strB_toList, show (⟨#[99]⟩ : ByteArray).toList = [99] from strB_toList [99]]; rfl) ?_))))
  refine brY rfl (brY rfl (brY rfl ?_))
  refine slot_Spoil_ok (c := 1) (F := [.own r10 1 (cB [99]), .own r7 1 (cB [97])]) H rfl (fun _ => brY rfl (slot_Bytes_nil (brY rfl ?_))) (fun k hk hk2 => by omega) (fun k _ hk hk2 => by omega)
  refine slot_Bytes_ok (F := [.own r10 1 (cB [99]), .own r7 1 (cB [97])]) H (by show fxA.length ≤ _; omega) (by show fxC.length ≤ _; omega) 1 (by decide) rfl fun r12 h12 o12 f12 e12 => ?_
  have n12 := rd_b o12.rd
  have e17 : (selS 1 fxA fxC).length = 17 := lC
  rw [n12, e17]
  exact hR h12 (H.ext' e12).ext
theorem law33_few_ok {h0 h : Heap} {F : List Res} {l : Sl} {acts : List AS} {R : Bool → Heap → Prop} (H : At h0 h F) (A : RdS h0 6 l (eAS.fl acts)) (hAc : ∀ a ∈ acts, RdS h0 1 a.s (cB a.xs))
    (hR : ∀ h' (v : Bool), At h0 h' F → (v = true → acts.length ≤ 40 ∧ ∀ a ∈ acts, a.xs.length ≤ 200) → R v h') (hl : acts.length ≤ 1000000000000000) : C_law33_few l h R := by
  refine A_law33_few ?_
  unfold S_law33_few
  have hn := rdn A
  refine loop1 (s1 := .one (.int .i64)) (fun (x : Int) h' => ∃ k : Nat, x = k ∧ k ≤ acts.length ∧ At h0 h' F ∧ ∀ a ∈ acts.take k, a.xs.length ≤ 200) (fun (x : Int) _ => (acts.length - x).toNat) ⟨0, rfl, Nat.zero_le _, H, (fun a ha => by cases ha)⟩ fun _ (x : Int) h' hI => ?_
  obtain ⟨k, rfl, hk, H, hs⟩ := hI
  refine brD (fun hc => ?_) fun hc => ?_
  · have hk2 : k < acts.length := by omega
    have hxn := rd_b (hAc _ (List.getElem_mem hk2))
    refine ixR (H.arg A) k rfl hk2 fun e he => ?_
    repeat (first | with_reducible refine nn ?_ | with_reducible refine let_ ?_ | with_reducible refine brSome ?_ | with_reducible refine brF ?_ | with_reducible refine brT ?_ | ((with_reducible apply ldAt H 0); exact rfl; exact rfl) | ((with_reducible apply ldAt0 H 0); exact rfl; exact rfl) | ((with_reducible apply ldR (H.arg A)); assumption; (case hk => assumption); exact rfl) | ((with_reducible apply ldR0 (H.arg A)); assumption; (case hk => assumption); exact rfl) | ((with_reducible apply stAt H 0); exact rfl; exact rfl; intro h H) | ((with_reducible apply stAt0 H 0); exact rfl; exact rfl; intro h H) | ((with_reducible apply allocAt H); intro h b H) | ((with_reducible refine ⟨?_, ?_⟩); first | ((with_reducible apply ldAt H 0); exact rfl; exact rfl; exact rfl) | ((with_reducible apply ldAt0 H 0); exact rfl; exact rfl; exact rfl)))
    refine brD (fun hc2 => hR _ false H.tail (fun hx => by cases hx)) fun hc2 => ?_
    rw [w64 (by omega) (by omega)]
    refine ⟨⟨k + 1, by omega, by omega, H.tail, fun a ha => ?_⟩, by omega⟩
    rw [take_snoc acts k hk2] at ha
    rcases List.mem_append.1 ha with ha | ha
    · exact hs a ha
    · rw [List.mem_singleton.1 ha]
      have : ¬ ((acts[k].s.n : Nat) : Int) > 200 := hc2
      omega
  · have : k = acts.length := by omega
    subst this
    rw [List.take_length] at hs
    exact hR _ _ H fun hv => ⟨by have := of_decide_eq_true hv; omega, hs⟩
set_option maxRecDepth 100000 in
theorem law33_SlotSpoilt_ok {l : Sl} {which at_ by_ : Int} {hB : Heap} {bs : List BA} (w0 : ArgB hB l bs) (w1 : 0 ≤ which ∧ which ≤ 255) (w2 : -9223372036854775808 ≤ at_ ∧ at_ ≤ 9223372036854775807) (w3 : 0 ≤ by_ ∧ by_ ≤ 255) :
    C_law33_SlotSpoilt l which at_ by_ hB fun r h' => r = true ∧ Ext hB.size hB h' := by
  refine A_law33_SlotSpoilt ?_
  unfold S_law33_SlotSpoilt
  obtain ⟨A, hbs⟩ := w0
  have hn := rdn A
  obtain ⟨y, rfl⟩ : ∃ n : UInt8, by_ = n.toNat := ⟨UInt8.ofNat by_.toNat, by simp; omega⟩
  refine law33_fixed_ok fun h0 e0 => brN rfl (brD (fun _ => ⟨rfl, e0⟩) fun hc1 => br beq_iff_eq (fun _ => ⟨rfl, e0⟩) fun hc2 => ?_)
  have hy : y.toNat ≠ 0 := by omega
  have hlb : (BAx bs).length = bs.length := by simp [BAx]
  have tl : ∀ (m : List (List UInt8)), m.length ≤ 1000 → (∀ c ∈ m, c.length ≤ 200) → ∀ i, (turnS m i).length ≤ 216 := fun m hm hc i => by
    have hg : ∀ j, (gd m j).length ≤ 200 := fun j => by
      by_cases h : j < m.length
      · rw [gd_in h]; exact hc _ (List.getElem_mem h)
      · rw [gd_out (by omega)]; exact Nat.zero_le _
    have g1 := hg (m.length - 1)
    have g2 := hg (m.length - 2)
    unfold turnS
    split
    · exact Nat.zero_le _
    · split
      · rw [slotB_length]; omega
      · split
        · exact Nat.zero_le _
        · rw [slotB_length]; omega
  refine slot_New_ok (At.of_ext e0) fun h1 p z H => ?_
  refine loop1 (s1 := .one (.int .i64)) (fun (x : Int) h2 => ∃ (k : Nat) (z : PS), x = k ∧ k ≤ bs.length ∧ At hB h2 (pairL p z (turnS ((BAx bs).take k) 0) (turnS ((BAx bs).take k) 1) ++ []) ∧ ∀ c ∈ (BAx bs).take k, c.length ≤ 200) (fun (x : Int) _ => (bs.length - x).toNat)
    ⟨0, z, rfl, Nat.zero_le _, H, (fun c hc => by cases hc)⟩ fun _ (x : Int) h2 hI => ?_
  obtain ⟨k, z, rfl, hk, H, hc200⟩ := hI
  have htk : ((BAx bs).take k).length = k := by rw [List.length_take]; omega
  have l0 := tl _ (by omega) hc200 0
  have l1 := tl _ (by omega) hc200 1
  have ht := turn_newest (by omega : ((BAx bs).take k).length ≤ 1000) hc200
  rw [htk] at ht
  refine brD (fun hc => ?_) fun hc => ?_
  · have hk2 : k < bs.length := by omega
    have hxr := hbs _ (List.getElem_mem hk2)
    have hxn := rd_b hxr
    refine ixR (H.arg A) k rfl hk2 fun e he => ldR0 (H.arg A) he hk2 bs[k].s rfl ?_
    refine brD (fun _ => ⟨rfl, H.ext⟩) fun hc3 => ?_
    have hget : (BAx bs)[k]'(by omega) = bs[k].xs := by simp [BAx]
    have hput := turn_put ((BAx bs).take k) bs[k].xs
    rw [htk] at hput
    have etk : (BAx bs).take (k + 1) = (BAx bs).take k ++ [bs[k].xs] := by rw [take_snoc _ k (by omega), hget]
    refine slot_Install_ok H (H.arg hxr) (by omega) (by omega) (fun hl => by omega) (fun _ hl => by omega) fun _ _ h3 z3 H => brN rfl ?_
    rw [ht.1, ht.2, hput, ← etk] at H
    rw [w64 (by omega) (by omega)]
    refine ⟨⟨k + 1, z3, by omega, by omega, H, fun c hcm => ?_⟩, by omega⟩
    rw [etk] at hcm
    rcases List.mem_append.1 hcm with hcm | hcm
    · exact hc200 c hcm
    · rw [List.mem_singleton.1 hcm]; omega
  · have hkl : k = bs.length := by omega
    subst hkl
    rw [← hlb, List.take_length] at H hc200 l0 l1 ht
    generalize hcs : BAx bs = cs at *
    refine nz (by decide) (let_ ?_)
    obtain ⟨i, hi2, hie⟩ : ∃ i : Nat, i < 2 ∧ IntKind.i64.wrap (divV .rem .u8 which 2) = i := ⟨(which % 2).toNat, by omega, by rw [rem_nonneg (by omega), w64 (by omega) (by omega)]; omega⟩
    rw [hie]
    refine slot_Bytes_ok H (by omega) (by omega) i hi2 rfl fun r3 h3 o3 f3 e3 => let_ ?_
    have H := H.ext' e3
    have n3 := rd_b o3.rd
    have hsel : selS i (turnS cs 0) (turnS cs 1) = turnS cs i := by
      have : i = 0 ∨ i = 1 := by omega
      rcases this with rfl | rfl <;> rfl
    rw [hsel] at n3
    have lsel : (turnS cs i).length ≤ 216 := by
      have : i = 0 ∨ i = 1 := by omega
      rcases this with rfl | rfl <;> assumption
    refine br beq_iff_eq (fun hz => ?_) fun hz => ?_
    · refine slot_Spoil_ok (c := y) H rfl (fun hx => by omega) (fun k hk hk2 _ => ⟨rfl, H.ext⟩) fun k j hk hk2 hj hlt => ?_
      obtain rfl : k = i := by omega
      rw [hsel] at hlt
      omega
    · have hpos : 0 < (turnS cs i).length := by omega
      have hu : IntKind.u64.wrap (r3.n : Int) = (r3.n : Nat) := wu64 (by omega) (by omega)
      rw [hu]
      refine nz (by omega) ?_
      have hua : 0 ≤ IntKind.u64.wrap at_ := by rw [wrU64]; omega
      obtain ⟨j, hj, hje⟩ : ∃ j : Nat, j < (turnS cs i).length ∧ IntKind.i64.wrap (divV .rem .u64 (IntKind.u64.wrap at_) (r3.n : Nat)) = j := by
        have h1 := Int.emod_nonneg (IntKind.u64.wrap at_) (b := (r3.n : Int)) (by omega)
        have h2 := Int.emod_lt_of_pos (IntKind.u64.wrap at_) (b := (r3.n : Int)) (by omega)
        refine ⟨(IntKind.u64.wrap at_ % (r3.n : Int)).toNat, by omega, ?_⟩
        rw [rem_nonneg hua, w64 (by omega) (by omega)]
        omega
      rw [hje]
      refine slot_Spoil_ok (c := y) H rfl (fun hx => by omega) (fun k hk hk2 hx => ?_) fun k j' hk hk2 hj' hlt h4 z4 H => brN rfl ?_
      · obtain rfl : k = i := by omega
        rw [hsel] at hx
        omega
      obtain rfl : k = i := by omega
      obtain rfl : j' = j := by omega
      rw [hsel] at H hlt
      -- what both tell now
      have hw := turnS_whole (by omega : cs.length ≤ 1000) hc200
      have hbad : wholeS (flp (turnS cs k) j' y) = ([], 0) := by
        unfold turnS at hlt ⊢
        have hg : ∀ j, (gd cs j).length ≤ 4088 := fun j => by
          by_cases h : j < cs.length
          · rw [gd_in h]; have := hc200 _ (List.getElem_mem h); omega
          · rw [gd_out (by omega)]; exact Nat.zero_le _
        split
        · rename_i h; rw [if_pos h] at hlt; simp at hlt
        · rename_i h
          rw [if_neg h] at hlt
          split
          · rename_i h'; rw [if_pos h'] at hlt; exact wholeS_turn (hg _) hlt hy
          · rename_i h'
            rw [if_neg h'] at hlt
            split
            · rename_i h''; rw [if_pos h''] at hlt; simp at hlt
            · rename_i h''; rw [if_neg h''] at hlt; exact wholeS_turn (hg _) hlt hy
      have hnew : (newestS (twoS k (turnS cs 0) (turnS cs 1) (flp (turnS cs k) j' y)).1 (twoS k (turnS cs 0) (turnS cs 1) (flp (turnS cs k) j' y)).2).2 = wholeS (turnS cs (1 - k)) := by
        have : k = 0 ∨ k = 1 := by omega
        unfold newestS
        rcases this with rfl | rfl
        · show (if (wholeS (flp (turnS cs 0) j' y)).2 < (wholeS (turnS cs 1)).2 then (1, wholeS (turnS cs 1)) else (0, wholeS (flp (turnS cs 0) j' y))).2 = _
          rw [hbad]
          split
          · rfl
          · rename_i h
            have h0 : (wholeS (turnS cs 1)).2 = 0 := by simp only at h; omega
            exact (Prod.ext ((wholeS_le _).2 h0) h0 : wholeS (turnS cs 1) = ([], 0)).symm
        · show (if (wholeS (turnS cs 0)).2 < (wholeS (flp (turnS cs 1) j' y)).2 then (1, wholeS (flp (turnS cs 1) j' y)) else (0, wholeS (turnS cs 0))).2 = _
          rw [hbad, if_neg (by simp)]
      have hlt2 : ∀ t, t.length ≤ 216 → (twoS k (turnS cs 0) (turnS cs 1) t).1.length ≤ 1048576 ∧ (twoS k (turnS cs 0) (turnS cs 1) t).2.length ≤ 1048576 := fun t ht => by
        unfold twoS
        split
        · exact ⟨by show t.length ≤ _; omega, by show (turnS cs 1).length ≤ _; omega⟩
        · exact ⟨by show (turnS cs 0).length ≤ _; omega, by show t.length ≤ _; omega⟩
      have hl2 := hlt2 (flp (turnS cs k) j' y) (by rw [flp_length]; exact lsel)
      refine slot_Read_ok H hl2.1 hl2.2 fun r5 h5 o5 f5 e5 => ?_
      have H := H.ext' e5
      rw [hnew] at o5 ⊢
      have hw2 := hw (1 - k)
      have n5 := rd_b o5.rd
      generalize wholeS (turnS cs (1 - k)) = ww at *
      rw [hn, ← hlb, w64 (by omega) (by omega)]
      have hcl : cs.length ≠ 0 := fun h0 => by unfold turnS at hpos; rw [if_pos h0] at hpos; simp at hpos
      refine let_ (nz (by decide) ?_)
      -- the other one
      have fin : ∀ (o : Int), (o < 0 ∧ ww = ([], 0) ∨ ∃ m : Nat, o = m ∧ m < cs.length ∧ ww = (gd cs m, m + 1)) →
          (bif decide (o < 0) then
                    Join [.one .bool] (fun _ (x8 : Bool) h_9 =>
                      (x8 = true ∧ Ext hB.size hB h_9)
                      ) fun J1 =>
                    (bif (if ww.2 = 0 then 6 else 0 : Int) == 6 then
                      (bif (r5.n : Int) == 0 then
                        J1 (((ww.2 : Nat) : Int) == 0) h5
                      else
                        J1 false h5
                      )
                    else
                      J1 false h5
                    )
                  else
                    (bif (if ww.2 = 0 then 6 else 0 : Int) == 0 then
                      ToS Try.prog 22 9 r5 h5 fun str =>
                      Ix l o 1 fun e1 =>
                      Ld .sl h5 e1 fun (x1 : Sl) =>
                      ToS Try.prog 22 9 x1 h5 fun str1 =>
                      (bif str.toList == str1.toList then
                        (((((ww.2 : Nat) : Int) == (IntKind.i64.wrap (o + 1))) = true) ∧ Ext hB.size hB h5)
                      else
                        (false = true ∧ Ext hB.size hB h5)
                      )
                    else
                      (false = true ∧ Ext hB.size hB h5)
                    )
                  ) := by
        intro o ho
        rcases ho with ⟨ho, hww⟩ | ⟨m, rfl, hm, hww⟩
        · rw [hww] at n5 ⊢
          refine brY (decide_eq_true ho) ?_
          refine join1 (s1 := .one .bool) (fun (x : Bool) h' => x = true ∧ h' = h5) (fun _ (x : Bool) h' hJ => ?_) ?_
          · obtain ⟨rfl, rfl⟩ := hJ
            exact ⟨rfl, H.ext⟩
          · exact brY rfl (brY (by rw [n5]; rfl) ⟨rfl, rfl⟩)
        · rw [hww] at o5 ⊢
          refine brN (decide_eq_false (by omega)) ?_
          simp only
          rw [if_neg (by omega)]
          have hm2 : m < bs.length := by omega
          refine brY rfl (toS BT o5.rd ?_)
          refine ixR (H.arg A) m rfl hm2 fun e he => ldR0 (H.arg A) he hm2 bs[m].s rfl (toS BT (H.arg (hbs _ (List.getElem_mem hm2))) ?_)
          have hg : gd cs m = bs[m].xs := by
            rw [gd_in hm]
            subst hcs
            simp [BAx]
          rw [strB_toList, strB_toList, hg]
          refine brY (by simp) ⟨?_, H.ext⟩
          rw [w64 (by omega) (by omega)]
          simp
      refine join1 (s1 := .one (.int .i64)) (fun (o : Int) h' => h' = h5 ∧ (o < 0 ∧ ww = ([], 0) ∨ ∃ m : Nat, o = m ∧ m < cs.length ∧ ww = (gd cs m, m + 1))) (fun _ (o : Int) h' hJ => ?_) ?_
      · obtain ⟨rfl, hJ⟩ := hJ
        exact fin o hJ
      · rw [if_neg hcl] at hw2
        rw [rem_nonneg (by omega)]
        refine br beq_iff_eq (fun hr => let_ ⟨rfl, ?_⟩) fun hr => ⟨rfl, ?_⟩
        · have h1 : (cs.length - 1) % 2 = k := by omega
          rw [if_neg (by omega)] at hw2
          rw [w64 (by omega) (by omega)]
          by_cases h11 : cs.length = 1
          · rw [if_pos h11] at hw2
            exact .inl ⟨by omega, hw2⟩
          · rw [if_neg h11] at hw2
            exact .inr ⟨cs.length - 2, by omega, by omega, by rw [hw2, show cs.length - 2 + 1 = cs.length - 1 by omega]⟩
        · rw [if_pos (by omega)] at hw2
          exact .inr ⟨cs.length - 1, by omega, by omega, by rw [hw2, show cs.length - 1 + 1 = cs.length by omega]⟩
section
open Go.ChangeShapes Go.WideShapes
variable {H : Type} {enc : TypeId × Value → H} {w : World} {b0 : Nat} {v : Value} {d : DataW H} {ps : List MemPlace}
set_option maxRecDepth 100000 in
theorem args_bss (hval : Value.okWide Try.prog w .any b0 108 v) (hd : DataW.Trod enc Try.prog w 0 (fun _ => true) true 108 v d ps) (hf : Fits Try.prog 108 d) :
    ∃ (s : Sl) (l : List BA), v = s.v ∧ ArgB w.heap s l := by
  have he : ElS enc Try.prog w 22 fun cs => ∃ a : BA, cs = eBA.cells a ∧ RdS w.heap 1 a.s (cB a.xs) :=
    els_map (els_bytes Try.underlying22 Try.underlying5 (by kernel_rfl) (of_decide_eq_true (by kernel_rfl))) fun cs ⟨s, xs, h1, h2, h3⟩ => ⟨⟨s, xs⟩, h1, h2.rd⟩
  obtain ⟨s, css, h1, _, h3, h4, h5, h8⟩ := args_sl (sz := 1) Try.underlying108 (by kernel_rfl) (by decide) (of_decide_eq_true (by kernel_rfl)) he hval hd hf
  obtain ⟨acts, h6, h7, _⟩ := cells_of eBA.cells _ fun c hc => (h3 c hc).2
  rw [h6] at h4
  exact ⟨s, acts, h1, h4.rd, h7⟩
end
end Go.Proofs.Ytnognoiaakiepaa
