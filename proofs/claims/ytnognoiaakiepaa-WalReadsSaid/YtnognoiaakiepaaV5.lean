/-
  Layer 5 (wal): the law WalReads over the heap alone.
-/
import Derived.Test.YtnognoiaakiepaaV4
namespace Go.Proofs.Ytnognoiaakiepaa
open Go

set_option maxRecDepth 100000 in
theorem law05_WalReads_ok {b : Sl} {r : KL [.int .u8, .sl]} {hB : Heap} {l : List UInt8} {a : BR} (w0 : Arg hB 1 b (cB l) ∧ b.below hB.size ∧ b.c ≤ 140737488351232) (w1 : r = (((a.kind.toNat : Nat) : Int), a.s, ()) ∧ RdS hB 1 a.s (cB a.xs) ∧ a.s.n ≤ a.s.c ∧ a.s.c ≤ 140737488351232) :
    C_law05_WalReads b r hB fun r h' => r = true ∧ Ext hB.size hB h' := by
  refine A_law05_WalReads ?_
  unfold S_law05_WalReads
  obtain ⟨hA, _, hbc⟩ := w0
  obtain ⟨rfl, ra, hac, hac2⟩ := w1
  have A := hA.rd
  have hn := rd_b A
  have hxn := rd_b ra
  have hle := hA.le
  have H := At.start hB
  refine allocAt H fun h1 p1 H => ?_
  refine law05_fixed_ok fun h2 e2 => brN rfl ?_
  have H := H.ext' e2
  refine brD (fun _ => ⟨rfl, H.ext⟩) fun hc1 => ?_
  refine ldAt H 0 rfl a.s rfl (brD (fun _ => ⟨rfl, H.ext⟩) fun hc2 => ?_)
  refine wal_Read_ok (H.arg A) hle (by omega) fun out3 bs3 h3 w3 hb3 e3 => ?_
  have H := H.newW e3 w3
  refine ref05_Read_ok (H.arg A) hle (by omega) fun out4 h4 o4 f4 e4 => ?_
  have H := H.new e4 (r := .own out4 2 (eRS.fl (walR l).1)) o4 f4
  refine brN (by simp) (brN (by simp) ?_)
  have w : RdS h4 2 out3 (eBR.fl bs3) ∧ ∀ x ∈ bs3, RdS h4 1 x.s (cB x.xs) := H.get 1 rfl
  have hlw := walM_le l (l.length + 1) [] 0 (Nat.zero_le _)
  have hbl : bs3.length ≤ 700 := by
    have h1 := congrArg List.length hb3
    rw [List.length_map] at h1
    have h2 := hlw.2.2
    have h3 := hlw.2.1
    unfold walR at h1
    simp only [List.length_nil] at h2
    omega
  refine law05_same_ok w (H.rdo 0 rfl) (by omega) fun v hv => ?_
  obtain rfl : v = true := hv.2 hb3
  refine brN rfl (ldAt0 H 2 rfl _ rfl (ldAt H 2 rfl _ rfl ?_))
  -- the record's bytes
  have rest : ∀ (r10 : Sl) (r11 : Int) (h5 : Heap) (rr : List Res), At hB h5 (rr ++ [.own out4 2 (eRS.fl (walR l).1), resW out3 bs3, .blk p1 24 [.int .u8 (a.kind.toNat : Nat), .slice a.s.a a.s.n a.s.c]]) → (rr = [] ∧ r10.n = 0 ∧ r11 ≠ 0 ∧ (r11 = 1 ↔ a.kind = 0) ∧ ¬ WRec.ok ⟨a.kind, a.xs⟩ ∨ rr = [.own r10 1 (cB (recM ⟨a.kind, a.xs⟩))] ∧ r11 = 0 ∧ WRec.ok ⟨a.kind, a.xs⟩) →
      Ld (.int .u8) h5 ⟨p1, 0, none⟩ fun (Kind : Int) =>
              Ld .sl h5 ((⟨p1, 0, none⟩ : Addr).add 1) fun (Data1 : Sl) =>
              ToS Try.prog 22 9 Data1 h5 fun str =>
              Alloc h5 (.cells #[.int .u8 0, .string (⟨#[]⟩ : ByteArray)] 37) fun p h_6 =>
              St h_6 p (.int .u8 Kind) fun h_7 =>
              St h_7 (p.add 1) (.string str) fun h_8 =>
              Ld (.int .u8) h_8 p fun (x_Kind1 : Int) =>
              Ld .str h_8 (p.add 1) fun (x_Data1 : ByteArray) =>
              C_ref05_Right (x_Kind1, x_Data1, ()) h_8 fun (r12 : Bool) h_9 =>
              (bif !r12 then
                Join [.one .bool] (fun _ (x4 : Bool) h_10 =>
                  (x4 = true ∧ Ext hB.size hB h_10)
                  ) fun J =>
                (bif r11 != 0 then
                  (bif (r10.n : Int) == 0 then
                    Ld (.int .u8) h_9 ⟨p1, 0, none⟩ fun (Kind1 : Int) =>
                    J ((r11 == 1) == (Kind1 == 0)) h_9
                  else
                    J false h_9
                  )
                else
                  J false h_9
                )
              else
                (bif r11 == 0 then
                  ToS Try.prog 22 9 r10 h_9 fun str1 =>
                  Ld (.int .u8) h_9 p fun (x_Kind2 : Int) =>
                  Ld .str h_9 (p.add 1) fun (x_Data2 : ByteArray) =>
                  C_ref05_Bytes (x_Kind2, x_Data2, ()) h_9 fun (r13 : Sl) h_11 =>
                  (ToS Try.prog 22 9 r10 h_11 fun str2 => (.string str2 : Value) = .string str1) ∧
                  ToS Try.prog 22 9 r13 h_11 fun str3 =>
                  ((str1.toList == str3.toList) = true ∧ Ext hB.size hB h_11)
                else
                  (false = true ∧ Ext hB.size hB h_9)
                )
              ) := by
    intro r10 r11 h5 rr H hcase
    rcases hcase with ⟨rfl, hn10, hne, hiff, hno⟩ | ⟨rfl, rfl, hok⟩
    · refine ldAt0 H 2 rfl _ rfl (ldAt H 2 rfl a.s rfl (toS BT (H.arg ra) ?_))
      refine allocAt H fun h6 p2 H => stAt0 H 0 rfl rfl fun h7 H => stAt H 0 rfl rfl fun h8 H => ldAt0 H 0 rfl ((a.kind.toNat : Nat) : Int) rfl (ldAt H 0 rfl (strB a.xs) rfl ?_)
      refine ref05_Right_ok fun h9 e9 v hv => ?_
      have H := H.ext' e9
      cases v with
      | true => exact absurd (hv.1 rfl) hno
      | false =>
        refine brY rfl (join1 (s1 := .one .bool) (fun (b : Bool) h10 => b = true ∧ h10 = h9) (fun _ (b : Bool) h10 hJ => ?_) (brY (by simpa using hne) (brY (by rw [hn10]; rfl) (ldAt0 H 3 rfl ((a.kind.toNat : Nat) : Int) rfl ⟨?_, rfl⟩))))
        · obtain ⟨rfl, rfl⟩ := hJ
          exact ⟨rfl, H.ext⟩
        · rw [beq_iff_eq]
          by_cases h0 : a.kind = 0
          · rw [hiff.2 h0, h0]; rfl
          · have h1 : r11 ≠ 1 := fun e => h0 (hiff.1 e)
            have h2 : ((a.kind.toNat : Nat) : Int) ≠ 0 := fun e => h0 (UInt8.toNat_inj.1 (by show a.kind.toNat = 0; omega))
            rw [beq_eq_false_iff_ne.2 h1, beq_eq_false_iff_ne.2 h2]
    · refine ldAt0 H 3 rfl _ rfl (ldAt H 3 rfl a.s rfl (toS BT (H.arg ra) ?_))
      refine allocAt H fun h6 p2 H => stAt0 H 0 rfl rfl fun h7 H => stAt H 0 rfl rfl fun h8 H => ldAt0 H 0 rfl ((a.kind.toNat : Nat) : Int) rfl (ldAt H 0 rfl (strB a.xs) rfl ?_)
      refine ref05_Right_ok fun h9 e9 v hv => ?_
      have H := H.ext' e9
      obtain rfl : v = true := hv.2 hok
      refine brN rfl (brY rfl (toS BT (H.rdo 1 rfl) (ldAt0 H 0 rfl ((a.kind.toNat : Nat) : Int) rfl (ldAt H 0 rfl (strB a.xs) rfl ?_))))
      refine ref05_Bytes_ok hok.2 fun r11 h11 o11 f11 e11 => ?_
      have H := H.ext' e11
      exact ⟨toS BT (H.rdo 1 rfl) rfl, toS BT o11.rd ⟨by simp, H.ext⟩⟩
  refine wal_Bytes_ok (H.arg ra) (fun hk h5 e5 => ?_) (fun hk hlen h5 e5 => ?_) fun hok r5 h5 o5 f5 e5 => ?_
  · exact rest _ _ h5 [] (H.ext' e5) (.inl ⟨rfl, rfl, by decide, ⟨fun _ => hk, fun _ => rfl⟩, fun hh => hh.1 hk⟩)
  · exact rest _ _ h5 [] (H.ext' e5) (.inl ⟨rfl, rfl, by decide, ⟨fun hh => absurd hh (by decide), fun hh => absurd hh hk⟩, fun hh => by have := hh.2; simp only at this; omega⟩)
  · exact rest _ _ h5 [.own r5 1 (cB (recM ⟨a.kind, a.xs⟩))] (H.new e5 o5 f5) (.inr ⟨rfl, rfl, hok⟩)
section
open Go.ChangeShapes Go.WideShapes
variable {H : Type} {enc : TypeId × Value → H} {w : World} {b0 : Nat} {v : Value} {d : DataW H} {ps : List MemPlace}
set_option maxRecDepth 100000 in
theorem args_record (hval : Value.okWide Try.prog w .any b0 24 v) (hd : DataW.Trod enc Try.prog w 0 (fun _ => true) true 24 v d ps) (hf : Fits Try.prog 24 d) :
    ∃ (r : KL [.int .u8, .sl]) (a : BR), v = .agg ⟨KL.vals [.int .u8, .sl] r⟩ ∧ r = (((a.kind.toNat : Nat) : Int), a.s, ()) ∧ RdS w.heap 1 a.s (cB a.xs) ∧ a.s.n ≤ a.s.c ∧ a.s.c ≤ 140737488351232 := by
  obtain ⟨cs, rfl, _⟩ := okWide_struct Try.underlying24 hval
  obtain ⟨fuel, hd⟩ := hd
  obtain ⟨a, h1, h2, h3, h4⟩ := els_record _ _ _ hd hf
  have h1' : cs.toList = eBR.cells a := h1
  refine ⟨((a.kind.toNat : Nat), a.s, ()), a, ?_, rfl, h2, h3, h4⟩
  congr 1
  rw [← Array.toArray_toList (xs := cs), h1']
  rfl
end
end Go.Proofs.Ytnognoiaakiepaa
