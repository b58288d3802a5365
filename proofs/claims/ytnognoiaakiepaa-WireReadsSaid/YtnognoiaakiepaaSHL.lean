/- Printed by a program: what each function asks of the heap, that this is the reading of its code, and what follows for a call. -/
import Derived.Test.YtnognoiaakiepaaSC
import Derived.Test.YtnognoiaakiepaaProg
set_option maxRecDepth 1000000
namespace Go.Proofs.Ytnognoiaakiepaa
open Go

/-- kissinggatelaw06.HardRecords -/
def S_law06_HardRecords (s : KL [.bool, .int .i64, .int .i64, .int .i64, .sl]) (h : Heap) (R : Bool → Heap → Prop) : Prop :=
  Alloc h (.cells #[.bool s.1, .int .i64 s.2.1, .int .i64 s.2.2.1, .int .i64 s.2.2.2.1, .slice s.2.2.2.2.1.a s.2.2.2.2.1.n s.2.2.2.2.1.c] 111) fun s1 h_ =>
  C_law06_fixed  h_ fun (r : Bool) h_1 =>
  (bif !r then
    R false h_1
  else
    Ld .bool h_1 s1 fun (x_Hard : Bool) =>
    Ld (.int .i64) h_1 (s1.add 1) fun (x_Term : Int) =>
    Ld (.int .i64) h_1 (s1.add 2) fun (x_Vote : Int) =>
    Ld (.int .i64) h_1 (s1.add 3) fun (x_From : Int) =>
    Ld .sl h_1 (s1.add 4) fun (x_Entries : Sl) =>
    C_law06_few (x_Hard, x_Term, x_Vote, x_From, x_Entries, ()) h_1 fun (r1 : Bool) h_2 =>
    (bif !r1 then
      R true h_2
    else
      Ld .bool h_2 s1 fun (x_Hard1 : Bool) =>
      Ld (.int .i64) h_2 (s1.add 1) fun (x_Term1 : Int) =>
      Ld (.int .i64) h_2 (s1.add 2) fun (x_Vote1 : Int) =>
      Ld (.int .i64) h_2 (s1.add 3) fun (x_From1 : Int) =>
      Ld .sl h_2 (s1.add 4) fun (x_Entries1 : Sl) =>
      Ld .bool h_2 s1 fun (x_Hard2 : Bool) =>
      Ld (.int .i64) h_2 (s1.add 1) fun (x_Term2 : Int) =>
      Ld (.int .i64) h_2 (s1.add 2) fun (x_Vote2 : Int) =>
      Ld (.int .i64) h_2 (s1.add 3) fun (x_From2 : Int) =>
      Ld .sl h_2 (s1.add 4) fun (x_Entries2 : Sl) =>
      C_hard_Records (x_Hard1, x_Term1, x_Vote1, x_From1, x_Entries1, ()) h_2 fun (r2 : Sl) h_3 =>
      (Ld .bool h_3 s1 fun (x_Hard3 : Bool) => Ld (.int .i64) h_3 (s1.add 1) fun (x_Term3 : Int) => Ld (.int .i64) h_3 (s1.add 2) fun (x_Vote3 : Int) => Ld (.int .i64) h_3 (s1.add 3) fun (x_From3 : Int) => Ld .sl h_3 (s1.add 4) fun (x_Entries3 : Sl) => (.agg #[.bool x_Hard3, .int .i64 x_Term3, .int .i64 x_Vote3, .int .i64 x_From3, .slice x_Entries3.a x_Entries3.n x_Entries3.c] : Value) = .agg #[.bool x_Hard2, .int .i64 x_Term2, .int .i64 x_Vote2, .int .i64 x_From2, .slice x_Entries2.a x_Entries2.n x_Entries2.c]) ∧
      C_law06_plain r2 h_3 fun (r3 : Sl) h_4 =>
      (Ld .bool h_4 s1 fun (x_Hard4 : Bool) => Ld (.int .i64) h_4 (s1.add 1) fun (x_Term4 : Int) => Ld (.int .i64) h_4 (s1.add 2) fun (x_Vote4 : Int) => Ld (.int .i64) h_4 (s1.add 3) fun (x_From4 : Int) => Ld .sl h_4 (s1.add 4) fun (x_Entries4 : Sl) => (.agg #[.bool x_Hard4, .int .i64 x_Term4, .int .i64 x_Vote4, .int .i64 x_From4, .slice x_Entries4.a x_Entries4.n x_Entries4.c] : Value) = .agg #[.bool x_Hard2, .int .i64 x_Term2, .int .i64 x_Vote2, .int .i64 x_From2, .slice x_Entries2.a x_Entries2.n x_Entries2.c]) ∧
      C_ref06_Records (x_Hard2, x_Term2, x_Vote2, x_From2, x_Entries2, ()) h_4 fun (r4 : Sl) h_5 =>
      (bif (r3.n : Int) != (r4.n : Int) then
        R false h_5
      else
        Loop [.one (.int .i64)] (fun _ (x23 : Int) h_6 go =>
          (bif decide (x23 < (r3.n : Int)) then
            Ix r3 x23 2 fun e =>
            Ld (.int .u8) h_6 e fun (x_Kind : Int) =>
            Ld .str h_6 (e.add 1) fun (x_Data : ByteArray) =>
            Ix r4 x23 2 fun e1 =>
            Ld (.int .u8) h_6 e1 fun (x_Kind1 : Int) =>
            Ld .str h_6 (e1.add 1) fun (x_Data1 : ByteArray) =>
            OpV Try.prog (do eqGuard .neq 37 (.tmp 29) (.tmp 33) (.agg #[.int .u8 x_Kind, .string x_Data]) (.agg #[.int .u8 x_Kind1, .string x_Data1]); binOp .neq 37 (.agg #[.int .u8 x_Kind, .string x_Data]) (.agg #[.int .u8 x_Kind1, .string x_Data1])) h_6 [.one .bool] fun (q : Bool) =>
            (bif q then
              R false h_6
            else
              go (IntKind.i64.wrap (x23 + 1)) h_6
            )
          else
            R true h_6
          )
          ) (0, ()) h_5
      )
    )
  )
theorem E_law06_HardRecords (s : KL [.bool, .int .i64, .int .i64, .int .i64, .sl]) (h : Heap) (R : Bool → Heap → Prop) :
    VF Try.prog [(506, [(23, .one (.int .i64))])] Try.f13 [.agg ⟨KL.vals [.bool, .int .i64, .int .i64, .int .i64, .sl] s⟩] h [.one .bool] R = S_law06_HardRecords s h R := by kernel_rfl
theorem A_law06_HardRecords {s : KL [.bool, .int .i64, .int .i64, .int .i64, .sl]} {h : Heap} {R : Bool → Heap → Prop} (hs : S_law06_HardRecords s h R) : C_law06_HardRecords s h R :=
  use_ Try.func13 (by kernel_rfl) (E_law06_HardRecords s h R) hs

/-- kissinggatelaw06.HardCrash -/
def S_law06_HardCrash (synced : Sl) (tail : Sl) (keep : Int) (at_ : Int) (by_ : Int) (h : Heap) (R : Bool → Heap → Prop) : Prop :=
  C_law06_fixed  h fun (r : Bool) h_ =>
  (bif !r then
    R false h_
  else
    (bif decide ((synced.n : Int) > 10) then
      R true h_
    else
      (bif decide ((tail.n : Int) > 10) then
        R true h_
      else
        C_disk_New  h_ fun (r1 : Option Addr) h_1 =>
        Alloc h_1 (.cells #[] 111) fun b h_2 =>
        App Try.prog 116 116 ⟨some b, 0, 0⟩ synced h_2 fun s h_3 =>
        App Try.prog 116 116 s tail h_3 fun s1 h_4 =>
        Loop [.one .sl, .one (.int .i64), .one (.int .i64)] (fun _ (all : Sl) (n : Int) (x40 : Int) h_5 go =>
          (bif decide (x40 < (s1.n : Int)) then
            Ix s1 x40 5 fun e =>
            Ld .bool h_5 e fun (x_Hard : Bool) =>
            Ld (.int .i64) h_5 (e.add 1) fun (x_Term : Int) =>
            Ld (.int .i64) h_5 (e.add 2) fun (x_Vote : Int) =>
            Ld (.int .i64) h_5 (e.add 3) fun (x_From : Int) =>
            Ld .sl h_5 (e.add 4) fun (x_Entries : Sl) =>
            Alloc h_5 (.cells #[.bool false, .int .i64 0, .int .i64 0, .int .i64 0, .slice none 0 0] 111) fun s2 h_6 =>
            St h_6 s2 (.bool x_Hard) fun h_7 =>
            St h_7 (s2.add 1) (.int .i64 x_Term) fun h_8 =>
            St h_8 (s2.add 2) (.int .i64 x_Vote) fun h_9 =>
            St h_9 (s2.add 3) (.int .i64 x_From) fun h_10 =>
            St h_10 (s2.add 4) (.slice x_Entries.a x_Entries.n x_Entries.c) fun h_11 =>
            Ld .bool h_11 s2 fun (x_Hard1 : Bool) =>
            Ld (.int .i64) h_11 (s2.add 1) fun (x_Term1 : Int) =>
            Ld (.int .i64) h_11 (s2.add 2) fun (x_Vote1 : Int) =>
            Ld (.int .i64) h_11 (s2.add 3) fun (x_From1 : Int) =>
            Ld .sl h_11 (s2.add 4) fun (x_Entries1 : Sl) =>
            C_law06_few (x_Hard1, x_Term1, x_Vote1, x_From1, x_Entries1, ()) h_11 fun (r2 : Bool) h_12 =>
            (bif !r2 then
              R true h_12
            else
              Join [] (fun _ h_13 =>
                Ld .bool h_13 s2 fun (x_Hard2 : Bool) =>
                Ld (.int .i64) h_13 (s2.add 1) fun (x_Term2 : Int) =>
                Ld (.int .i64) h_13 (s2.add 2) fun (x_Vote2 : Int) =>
                Ld (.int .i64) h_13 (s2.add 3) fun (x_From2 : Int) =>
                Ld .sl h_13 (s2.add 4) fun (x_Entries2 : Sl) =>
                C_ref06_Records (x_Hard2, x_Term2, x_Vote2, x_From2, x_Entries2, ()) h_13 fun (r3 : Sl) h_14 =>
                Loop [.one .sl, .one (.int .i64)] (fun _ (all1 : Sl) (x57 : Int) h_15 go1 =>
                  (bif decide (x57 < (r3.n : Int)) then
                    Ix r3 x57 2 fun e1 =>
                    Ld (.int .u8) h_15 e1 fun (x_Kind : Int) =>
                    Ld .str h_15 (e1.add 1) fun (x_Data : ByteArray) =>
                    Alloc h_15 (.cells #[.int .u8 0, .string (⟨#[]⟩ : ByteArray)] 37) fun r4 h_16 =>
                    St h_16 r4 (.int .u8 x_Kind) fun h_17 =>
                    St h_17 (r4.add 1) (.string x_Data) fun h_18 =>
                    Ld (.int .u8) h_18 r4 fun (x_Kind1 : Int) =>
                    Ld .str h_18 (r4.add 1) fun (x_Data1 : ByteArray) =>
                    C_ref05_Right (x_Kind1, x_Data1, ()) h_18 fun (r5 : Bool) h_19 =>
                    (bif !r5 then
                      R true h_19
                    else
                      Ld (.int .u8) h_19 r4 fun (x_Kind2 : Int) =>
                      Ld .str h_19 (r4.add 1) fun (x_Data2 : ByteArray) =>
                      Alloc h_19 (.cells #[.int .u8 x_Kind2, .string x_Data2] 37) fun b1 h_20 =>
                      App Try.prog 30 30 all1 ⟨some b1, 1, 1⟩ h_20 fun s3 h_21 =>
                      go1 s3 (IntKind.i64.wrap (x57 + 1)) h_21
                    )
                  else
                    Join [.one (.int .i64)] (fun _ (n1 : Int) h_22 =>
                      Ld .bool h_22 s2 fun (x_Hard3 : Bool) =>
                      Ld (.int .i64) h_22 (s2.add 1) fun (x_Term3 : Int) =>
                      Ld (.int .i64) h_22 (s2.add 2) fun (x_Vote3 : Int) =>
                      Ld (.int .i64) h_22 (s2.add 3) fun (x_From3 : Int) =>
                      Ld .sl h_22 (s2.add 4) fun (x_Entries3 : Sl) =>
                      C_hard_Write r1 (x_Hard3, x_Term3, x_Vote3, x_From3, x_Entries3, ()) h_22 fun (r6 : Int) h_23 =>
                      (bif r6 != 0 then
                        R false h_23
                      else
                        go all1 n1 (IntKind.i64.wrap (x40 + 1)) h_23
                      )
                      ) fun J1 =>
                    (bif decide (x40 < (synced.n : Int)) then
                      Let ((all1.n : Int) : Int) fun n2 =>
                      J1 n2 h_15
                    else
                      J1 n h_15
                    )
                  )
                  ) (all, 0, ()) h_14
                ) fun J =>
              (bif x40 == (synced.n : Int) then
                C_disk_Disk_Sync r1 h_12 fun (r7 : Int) h_24 =>
                J  h_24
              else
                J  h_12
              )
            )
          else
            Join [] (fun _ h_25 =>
              C_disk_Disk_Crash r1 keep at_ by_ h_25 fun (r8 : Int) h_26 =>
              C_hard_Recover r1 h_26 fun (r9 : KL [.int .i64, .int .i64, .sl]) (r10 : Int) h_27 =>
              Alloc h_27 (.cells #[.int .i64 0, .int .i64 0, .slice none 0 0] 119) fun got h_28 =>
              St h_28 got (.int .i64 r9.1) fun h_29 =>
              St h_29 (got.add 1) (.int .i64 r9.2.1) fun h_30 =>
              St h_30 (got.add 2) (.slice r9.2.2.1.a r9.2.2.1.n r9.2.2.1.c) fun h_31 =>
              Loop [.one (.int .i64)] (fun _ (k : Int) h_32 go2 =>
                (bif decide (k ≤ (all.n : Int)) then
                  Cut Try.prog 30 all none (some (.int .i64 k)) none fun s4 =>
                  C_ref06_Play s4 h_32 fun (r11 : KL [.int .i64, .int .i64, .sl]) (r12 : Bool) h_33 =>
                  Alloc h_33 (.cells #[.int .i64 0, .int .i64 0, .slice none 0 0] 119) fun want h_34 =>
                  St h_34 want (.int .i64 r11.1) fun h_35 =>
                  St h_35 (want.add 1) (.int .i64 r11.2.1) fun h_36 =>
                  St h_36 (want.add 2) (.slice r11.2.2.1.a r11.2.2.1.n r11.2.2.1.c) fun h_37 =>
                  (bif r12 then
                    (bif r10 == 0 then
                      Ld (.int .i64) h_37 got fun (x_Term4 : Int) =>
                      Ld (.int .i64) h_37 (got.add 1) fun (x_Vote4 : Int) =>
                      Ld .sl h_37 (got.add 2) fun (x_Entries4 : Sl) =>
                      Ld (.int .i64) h_37 want fun (x_Term5 : Int) =>
                      Ld (.int .i64) h_37 (want.add 1) fun (x_Vote5 : Int) =>
                      Ld .sl h_37 (want.add 2) fun (x_Entries5 : Sl) =>
                      C_ref06_Same (x_Term4, x_Vote4, x_Entries4, ()) (x_Term5, x_Vote5, x_Entries5, ()) h_37 fun (r13 : Bool) h_38 =>
                      (bif r13 then
                        R true h_38
                      else
                        (bif !r12 then
                          (bif r10 == 2 then
                            R true h_38
                          else
                            Let (IntKind.i64.wrap (k + 1) : Int) fun k1 =>
                            go2 k1 h_38
                          )
                        else
                          Let (IntKind.i64.wrap (k + 1) : Int) fun k2 =>
                          go2 k2 h_38
                        )
                      )
                    else
                      (bif !r12 then
                        (bif r10 == 2 then
                          R true h_37
                        else
                          Let (IntKind.i64.wrap (k + 1) : Int) fun k3 =>
                          go2 k3 h_37
                        )
                      else
                        Let (IntKind.i64.wrap (k + 1) : Int) fun k4 =>
                        go2 k4 h_37
                      )
                    )
                  else
                    (bif !r12 then
                      (bif r10 == 2 then
                        R true h_37
                      else
                        Let (IntKind.i64.wrap (k + 1) : Int) fun k5 =>
                        go2 k5 h_37
                      )
                    else
                      Let (IntKind.i64.wrap (k + 1) : Int) fun k6 =>
                      go2 k6 h_37
                    )
                  )
                else
                  R false h_32
                )
                ) (n, ()) h_31
              ) fun J2 =>
            (bif (tail.n : Int) == 0 then
              C_disk_Disk_Sync r1 h_5 fun (r14 : Int) h_39 =>
              J2  h_39
            else
              J2  h_5
            )
          )
          ) (⟨none, 0, 0⟩, 0, 0, ()) h_4
      )
    )
  )
theorem E_law06_HardCrash (synced : Sl) (tail : Sl) (keep : Int) (at_ : Int) (by_ : Int) (h : Heap) (R : Bool → Heap → Prop) :
    VF Try.prog [(1018, [(12, .one .sl), (13, .one (.int .i64)), (40, .one (.int .i64))]), (521421, []), (2085690, [(12, .one .sl), (57, .one (.int .i64))]), (2085693, [(13, .one (.int .i64))]), (1021, []), (16378, [(20, .one (.int .i64))])] Try.f14 [.slice synced.a synced.n synced.c, .slice tail.a tail.n tail.c, .int .i64 keep, .int .i64 at_, .int .u8 by_] h [.one .bool] R = S_law06_HardCrash synced tail keep at_ by_ h R := by kernel_rfl
theorem A_law06_HardCrash {synced : Sl} {tail : Sl} {keep : Int} {at_ : Int} {by_ : Int} {h : Heap} {R : Bool → Heap → Prop} (hs : S_law06_HardCrash synced tail keep at_ by_ h R) : C_law06_HardCrash synced tail keep at_ by_ h R :=
  use_ Try.func14 (by kernel_rfl) (E_law06_HardCrash synced tail keep at_ by_ h R) hs

/-- kissinggatelaw06.fixed -/
def S_law06_fixed  (h : Heap) (R : Bool → Heap → Prop) : Prop :=
  C_disk_New  h fun (r : Option Addr) h_ =>
  Alloc h_ (.cells #[.int .i64 2, .string (⟨#[120]⟩ : ByteArray), .int .i64 3, .string (⟨#[121]⟩ : ByteArray)] 90) fun b h_1 =>
  C_hard_Write r (true, 3, 1, 1, ⟨some b, 2, 2⟩, ()) h_1 fun (r1 : Int) h_2 =>
  C_disk_Disk_Sync r h_2 fun (r2 : Int) h_3 =>
  Alloc h_3 (.cells #[.int .i64 3, .string (⟨#[122]⟩ : ByteArray)] 90) fun b1 h_4 =>
  C_hard_Write r (false, 0, 0, 2, ⟨some b1, 1, 1⟩, ()) h_4 fun (r3 : Int) h_5 =>
  C_hard_Recover r h_5 fun (r4 : KL [.int .i64, .int .i64, .sl]) (r5 : Int) h_6 =>
  Alloc h_6 (.cells #[.int .i64 0, .int .i64 0, .slice none 0 0] 119) fun s h_7 =>
  St h_7 s (.int .i64 r4.1) fun h_8 =>
  St h_8 (s.add 1) (.int .i64 r4.2.1) fun h_9 =>
  St h_9 (s.add 2) (.slice r4.2.2.1.a r4.2.2.1.n r4.2.2.1.c) fun h_10 =>
  Alloc h_10 (.cells #[.int .u8 3, .slice none 0 0] 24) fun b2 h_11 =>
  C_hard_Play ⟨some b2, 1, 1⟩ h_11 fun (r6 : KL [.int .i64, .int .i64, .sl]) (r7 : Int) h_12 =>
  Alloc h_12 (.cells #[.int .i64 0, .int .i64 0, .slice none 0 0] 119) fun p h_13 =>
  St h_13 p (.int .i64 r6.1) fun h_14 =>
  St h_14 (p.add 1) (.int .i64 r6.2.1) fun h_15 =>
  St h_15 (p.add 2) (.slice r6.2.2.1.a r6.2.2.1.n r6.2.2.1.c) fun h_16 =>
  C_hard_Play ⟨none, 0, 0⟩ h_16 fun (r8 : KL [.int .i64, .int .i64, .sl]) (r9 : Int) h_17 =>
  Alloc h_17 (.cells #[.int .i64 0, .int .i64 0, .slice none 0 0] 119) fun empty h_18 =>
  St h_18 empty (.int .i64 r8.1) fun h_19 =>
  St h_19 (empty.add 1) (.int .i64 r8.2.1) fun h_20 =>
  St h_20 (empty.add 2) (.slice r8.2.2.1.a r8.2.2.1.n r8.2.2.1.c) fun h_21 =>
  C_hard_Recover none h_21 fun (r10 : KL [.int .i64, .int .i64, .sl]) (r11 : Int) h_22 =>
  Alloc h_22 (.cells #[.int .i64 0, .int .i64 0, .slice none 0 0] 119) fun p1 h_23 =>
  St h_23 p1 (.int .i64 r10.1) fun h_24 =>
  St h_24 (p1.add 1) (.int .i64 r10.2.1) fun h_25 =>
  St h_25 (p1.add 2) (.slice r10.2.2.1.a r10.2.2.1.n r10.2.2.1.c) fun h_26 =>
  (bif r1 == 0 then
    (bif r3 == 0 then
      (bif r5 == 0 then
        Ld (.int .i64) h_26 s fun (Term : Int) =>
        (bif Term == 3 then
          Ld (.int .i64) h_26 (s.add 1) fun (Vote : Int) =>
          (bif Vote == 1 then
            Ld .sl h_26 (s.add 2) fun (Entries : Sl) =>
            (bif (Entries.n : Int) == 2 then
              Ld .sl h_26 (s.add 2) fun (Entries1 : Sl) =>
              Ix Entries1 1 2 fun e =>
              Ld .str h_26 (e.add 1) fun (Data : ByteArray) =>
              (bif Data.toList == (⟨#[122]⟩ : ByteArray).toList then
                (bif r7 == 2 then
                  (bif r9 == 0 then
                    Ld (.int .i64) h_26 (empty.add 1) fun (Vote1 : Int) =>
                    (bif Vote1 == (-1) then
                      (bif r11 == 1 then
                        Ld (.int .i64) h_26 s fun (x_Term : Int) =>
                        Ld (.int .i64) h_26 (s.add 1) fun (x_Vote : Int) =>
                        Ld .sl h_26 (s.add 2) fun (x_Entries : Sl) =>
                        C_hard_Right (x_Term, x_Vote, x_Entries, ()) h_26 fun (r12 : Bool) h_27 =>
                        (bif r12 then
                          C_hard_Records (true, 0, 0, 0, ⟨none, 0, 0⟩, ()) h_27 fun (r13 : Sl) h_28 =>
                          R ((r13.n : Int) == 1) h_28
                        else
                          R false h_27
                        )
                      else
                        R false h_26
                      )
                    else
                      R false h_26
                    )
                  else
                    R false h_26
                  )
                else
                  R false h_26
                )
              else
                R false h_26
              )
            else
              R false h_26
            )
          else
            R false h_26
          )
        else
          R false h_26
        )
      else
        R false h_26
      )
    else
      R false h_26
    )
  else
    R false h_26
  )
theorem E_law06_fixed  (h : Heap) (R : Bool → Heap → Prop) :
    VF Try.prog [] Try.f61 [] h [.one .bool] R = S_law06_fixed  h R := by kernel_rfl
theorem A_law06_fixed  {h : Heap} {R : Bool → Heap → Prop} (hs : S_law06_fixed  h R) : C_law06_fixed  h R :=
  use_ Try.func61 (by kernel_rfl) (E_law06_fixed  h R) hs

/-- kissinggatelaw06.few -/
def S_law06_few (s : KL [.bool, .int .i64, .int .i64, .int .i64, .sl]) (h : Heap) (R : Bool → Heap → Prop) : Prop :=
  Alloc h (.cells #[.bool s.1, .int .i64 s.2.1, .int .i64 s.2.2.1, .int .i64 s.2.2.2.1, .slice s.2.2.2.2.1.a s.2.2.2.2.1.n s.2.2.2.2.1.c] 111) fun s1 h_ =>
  Ld .sl h_ (s1.add 4) fun (Entries : Sl) =>
  Loop [.one (.int .i64)] (fun _ (x8 : Int) h_1 go =>
    (bif decide (x8 < (Entries.n : Int)) then
      Ix Entries x8 2 fun e =>
      Ld (.int .i64) h_1 e fun (x_Term : Int) =>
      Ld .str h_1 (e.add 1) fun (x_Data : ByteArray) =>
      Alloc h_1 (.cells #[.int .i64 0, .string (⟨#[]⟩ : ByteArray)] 90) fun e1 h_2 =>
      St h_2 e1 (.int .i64 x_Term) fun h_3 =>
      St h_3 (e1.add 1) (.string x_Data) fun h_4 =>
      Ld .str h_4 (e1.add 1) fun (Data : ByteArray) =>
      (bif decide ((Data.size : Int) > 600) then
        R false h_4
      else
        go (IntKind.i64.wrap (x8 + 1)) h_4
      )
    else
      Ld .sl h_1 (s1.add 4) fun (Entries1 : Sl) =>
      R (decide ((Entries1.n : Int) ≤ 12)) h_1
    )
    ) (0, ()) h_
theorem E_law06_few (s : KL [.bool, .int .i64, .int .i64, .int .i64, .sl]) (h : Heap) (R : Bool → Heap → Prop) :
    VF Try.prog [(26, [(8, .one (.int .i64))])] Try.f62 [.agg ⟨KL.vals [.bool, .int .i64, .int .i64, .int .i64, .sl] s⟩] h [.one .bool] R = S_law06_few s h R := by kernel_rfl
theorem A_law06_few {s : KL [.bool, .int .i64, .int .i64, .int .i64, .sl]} {h : Heap} {R : Bool → Heap → Prop} (hs : S_law06_few s h R) : C_law06_few s h R :=
  use_ Try.func62 (by kernel_rfl) (E_law06_few s h R) hs

/-- kissinggatelaw06.plain -/
def S_law06_plain (l : Sl) (h : Heap) (R : Sl → Heap → Prop) : Prop :=
  Loop [.one .sl, .one (.int .i64)] (fun _ (out : Sl) (x8 : Int) h_ go =>
    (bif decide (x8 < (l.n : Int)) then
      Ix l x8 2 fun e =>
      Ld (.int .u8) h_ e fun (x_Kind : Int) =>
      Ld .sl h_ (e.add 1) fun (x_Data : Sl) =>
      Alloc h_ (.cells #[.int .u8 0, .slice none 0 0] 24) fun r h_1 =>
      St h_1 r (.int .u8 x_Kind) fun h_2 =>
      St h_2 (r.add 1) (.slice x_Data.a x_Data.n x_Data.c) fun h_3 =>
      Ld (.int .u8) h_3 r fun (Kind : Int) =>
      Ld .sl h_3 (r.add 1) fun (Data : Sl) =>
      ToS Try.prog 22 9 Data h_3 fun str =>
      Alloc h_3 (.cells #[.int .u8 Kind, .string str] 37) fun b h_4 =>
      App Try.prog 30 30 out ⟨some b, 1, 1⟩ h_4 fun s h_5 =>
      go s (IntKind.i64.wrap (x8 + 1)) h_5
    else
      R out h_
    )
    ) (⟨none, 0, 0⟩, 0, ()) h
theorem E_law06_plain (l : Sl) (h : Heap) (R : Sl → Heap → Prop) :
    VF Try.prog [(58, [(3, .one .sl), (8, .one (.int .i64))])] Try.f63 [.slice l.a l.n l.c] h [.one .sl] R = S_law06_plain l h R := by kernel_rfl
theorem A_law06_plain {l : Sl} {h : Heap} {R : Sl → Heap → Prop} (hs : S_law06_plain l h R) : C_law06_plain l h R :=
  use_ Try.func63 (by kernel_rfl) (E_law06_plain l h R) hs

end Go.Proofs.Ytnognoiaakiepaa
