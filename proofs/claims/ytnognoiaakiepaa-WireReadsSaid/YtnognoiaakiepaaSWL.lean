/- Printed by a program: what each function asks of the heap, that this is the reading of its code, and what follows for a call. -/
import Derived.Test.YtnognoiaakiepaaSC
import Derived.Test.YtnognoiaakiepaaProg
set_option maxRecDepth 1000000
namespace Go.Proofs.Ytnognoiaakiepaa
open Go

/-- kissinggatelaw05.WalReads -/
def S_law05_WalReads (b : Sl) (r : KL [.int .u8, .sl]) (h : Heap) (R : Bool → Heap → Prop) : Prop :=
  Alloc h (.cells #[.int .u8 r.1, .slice r.2.1.a r.2.1.n r.2.1.c] 24) fun r1 h_ =>
  C_law05_fixed  h_ fun (r2 : Bool) h_1 =>
  (bif !r2 then
    R false h_1
  else
    (bif decide ((b.n : Int) > 700) then
      R true h_1
    else
      Ld .sl h_1 (r1.add 1) fun (Data : Sl) =>
      (bif decide ((Data.n : Int) > 5000) then
        R true h_1
      else
        C_wal_Read b h_1 fun (r3 : Sl) (r4 : Int) (r5 : Int) h_2 =>
        C_ref05_Read b h_2 fun (r6 : Sl) (r7 : Int) (r8 : Int) h_3 =>
        (bif r5 != r8 then
          R false h_3
        else
          (bif r4 != r7 then
            R false h_3
          else
            C_law05_same r3 r6 h_3 fun (r9 : Bool) h_4 =>
            (bif !r9 then
              R false h_4
            else
              Ld (.int .u8) h_4 r1 fun (x_Kind : Int) =>
              Ld .sl h_4 (r1.add 1) fun (x_Data : Sl) =>
              C_wal_Bytes (x_Kind, x_Data, ()) h_4 fun (r10 : Sl) (r11 : Int) h_5 =>
              Ld (.int .u8) h_5 r1 fun (Kind : Int) =>
              Ld .sl h_5 (r1.add 1) fun (Data1 : Sl) =>
              ToS Try.prog 22 9 Data1 h_5 fun str =>
              Alloc h_5 (.cells #[.int .u8 0, .string (⟨#[]⟩ : ByteArray)] 37) fun p h_6 =>
              St h_6 p (.int .u8 Kind) fun h_7 =>
              St h_7 (p.add 1) (.string str) fun h_8 =>
              Ld (.int .u8) h_8 p fun (x_Kind1 : Int) =>
              Ld .str h_8 (p.add 1) fun (x_Data1 : ByteArray) =>
              C_ref05_Right (x_Kind1, x_Data1, ()) h_8 fun (r12 : Bool) h_9 =>
              (bif !r12 then
                Join [.one .bool] (fun _ (x4 : Bool) h_10 =>
                  R x4 h_10
                  ) fun J =>
                (bif r11 != 0 then
                  (bif (r10.n : Int) == 0 then
                    Ld (.int .u8) h_9 r1 fun (Kind1 : Int) =>
                    J ((r11 == 1) == (Kind1 == 0)) h_9
                  else
                    J false h_9
                  )
                else
                  J false h_9
                )
              else
                (bif r11 == 0 then
                  ToS Try.prog 22 9 r10 h_9 fun str1 =>
                  Ld (.int .u8) h_9 p fun (x_Kind2 : Int) =>
                  Ld .str h_9 (p.add 1) fun (x_Data2 : ByteArray) =>
                  C_ref05_Bytes (x_Kind2, x_Data2, ()) h_9 fun (r13 : Sl) h_11 =>
                  (ToS Try.prog 22 9 r10 h_11 fun str2 => (.string str2 : Value) = .string str1) ∧
                  ToS Try.prog 22 9 r13 h_11 fun str3 =>
                  R (str1.toList == str3.toList) h_11
                else
                  R false h_9
                )
              )
            )
          )
        )
      )
    )
  )
theorem E_law05_WalReads (b : Sl) (r : KL [.int .u8, .sl]) (h : Heap) (R : Bool → Heap → Prop) :
    VF Try.prog [(8180, [(4, .one .bool)])] Try.f3 [.slice b.a b.n b.c, .agg ⟨KL.vals [.int .u8, .sl] r⟩] h [.one .bool] R = S_law05_WalReads b r h R := by kernel_rfl
theorem A_law05_WalReads {b : Sl} {r : KL [.int .u8, .sl]} {h : Heap} {R : Bool → Heap → Prop} (hs : S_law05_WalReads b r h R) : C_law05_WalReads b r h R :=
  use_ Try.func3 (by kernel_rfl) (E_law05_WalReads b r h R) hs

/-- kissinggatelaw05.WalCrash -/
def S_law05_WalCrash (synced : Sl) (tail : Sl) (keep : Int) (at_ : Int) (by_ : Int) (h : Heap) (R : Bool → Heap → Prop) : Prop :=
  C_law05_fixed  h fun (r : Bool) h_ =>
  (bif !r then
    R false h_
  else
    (bif decide ((synced.n : Int) > 20) then
      R true h_
    else
      (bif decide ((tail.n : Int) > 20) then
        R true h_
      else
        C_disk_New  h_ fun (r1 : Option Addr) h_1 =>
        Alloc h_1 (.cells #[] 24) fun b h_2 =>
        App Try.prog 26 26 ⟨some b, 0, 0⟩ synced h_2 fun s h_3 =>
        App Try.prog 26 26 s tail h_3 fun s1 h_4 =>
        Loop [.one .sl, .one (.int .i64)] (fun _ (all : Sl) (x41 : Int) h_5 go =>
          (bif decide (x41 < (s1.n : Int)) then
            Ix s1 x41 2 fun e =>
            Ld (.int .u8) h_5 e fun (x_Kind : Int) =>
            Ld .sl h_5 (e.add 1) fun (x_Data : Sl) =>
            Alloc h_5 (.cells #[.int .u8 0, .slice none 0 0] 24) fun r2 h_6 =>
            St h_6 r2 (.int .u8 x_Kind) fun h_7 =>
            St h_7 (r2.add 1) (.slice x_Data.a x_Data.n x_Data.c) fun h_8 =>
            Ld (.int .u8) h_8 r2 fun (Kind : Int) =>
            Ld .sl h_8 (r2.add 1) fun (Data : Sl) =>
            ToS Try.prog 22 9 Data h_8 fun str =>
            Alloc h_8 (.cells #[.int .u8 0, .string (⟨#[]⟩ : ByteArray)] 37) fun p h_9 =>
            St h_9 p (.int .u8 Kind) fun h_10 =>
            St h_10 (p.add 1) (.string str) fun h_11 =>
            Ld .sl h_11 (r2.add 1) fun (Data1 : Sl) =>
            (bif decide ((Data1.n : Int) > 300) then
              R true h_11
            else
              Ld (.int .u8) h_11 p fun (x_Kind1 : Int) =>
              Ld .str h_11 (p.add 1) fun (x_Data1 : ByteArray) =>
              C_ref05_Right (x_Kind1, x_Data1, ()) h_11 fun (r3 : Bool) h_12 =>
              (bif !r3 then
                R true h_12
              else
                Join [] (fun _ h_13 =>
                  Ld (.int .u8) h_13 r2 fun (x_Kind2 : Int) =>
                  Ld .sl h_13 (r2.add 1) fun (x_Data2 : Sl) =>
                  C_wal_Append r1 (x_Kind2, x_Data2, ()) h_13 fun (r4 : Int) h_14 =>
                  (bif r4 != 0 then
                    R false h_14
                  else
                    Ld (.int .u8) h_14 p fun (x_Kind3 : Int) =>
                    Ld .str h_14 (p.add 1) fun (x_Data3 : ByteArray) =>
                    Alloc h_14 (.cells #[.int .u8 x_Kind3, .string x_Data3] 37) fun b1 h_15 =>
                    App Try.prog 30 30 all ⟨some b1, 1, 1⟩ h_15 fun s2 h_16 =>
                    go s2 (IntKind.i64.wrap (x41 + 1)) h_16
                  )
                  ) fun J =>
                (bif x41 == (synced.n : Int) then
                  C_disk_Disk_Sync r1 h_12 fun (r5 : Int) h_17 =>
                  J  h_17
                else
                  J  h_12
                )
              )
            )
          else
            Join [] (fun _ h_18 =>
              C_disk_Disk_Crash r1 keep at_ by_ h_18 fun (r6 : Int) h_19 =>
              C_disk_Disk_Bytes r1 h_19 fun (r7 : Sl) h_20 =>
              C_wal_Recover r1 h_20 fun (r8 : Sl) (r9 : Int) h_21 =>
              (bif r9 != 0 then
                R false h_21
              else
                (bif decide ((r8.n : Int) < (synced.n : Int)) then
                  R false h_21
                else
                  (bif decide ((r8.n : Int) > (all.n : Int)) then
                    R false h_21
                  else
                    Cut Try.prog 30 all none (some (.int .i64 (r8.n : Int))) none fun s3 =>
                    C_law05_same r8 s3 h_21 fun (r10 : Bool) h_22 =>
                    (bif !r10 then
                      R false h_22
                    else
                      C_ref05_Read r7 h_22 fun (r11 : Sl) (r12 : Int) (r13 : Int) h_23 =>
                      C_wal_Recover r1 h_23 fun (r14 : Sl) (r15 : Int) h_24 =>
                      (bif (r11.n : Int) == (r8.n : Int) then
                        (bif r15 == 0 then
                          Cut Try.prog 30 all none (some (.int .i64 (r8.n : Int))) none fun s4 =>
                          C_law05_same r14 s4 h_24 fun (r16 : Bool) h_25 =>
                          (bif r16 then
                            C_disk_Disk_Len r1 h_25 fun (r17 : Int) h_26 =>
                            (bif r17 == r12 then
                              C_disk_Disk_Synced r1 h_26 fun (r18 : Int) h_27 =>
                              R (r18 == r12) h_27
                            else
                              R false h_26
                            )
                          else
                            R false h_25
                          )
                        else
                          R false h_24
                        )
                      else
                        R false h_24
                      )
                    )
                  )
                )
              )
              ) fun J1 =>
            (bif (tail.n : Int) == 0 then
              C_disk_Disk_Sync r1 h_5 fun (r19 : Int) h_28 =>
              J1  h_28
            else
              J1  h_5
            )
          )
          ) (⟨none, 0, 0⟩, 0, ()) h_4
      )
    )
  )
theorem E_law05_WalCrash (synced : Sl) (tail : Sl) (keep : Int) (at_ : Int) (by_ : Int) (h : Heap) (R : Bool → Heap → Prop) :
    VF Try.prog [(506, [(12, .one .sl), (41, .one (.int .i64))]), (518557, []), (509, [])] Try.f4 [.slice synced.a synced.n synced.c, .slice tail.a tail.n tail.c, .int .i64 keep, .int .i64 at_, .int .u8 by_] h [.one .bool] R = S_law05_WalCrash synced tail keep at_ by_ h R := by kernel_rfl
theorem A_law05_WalCrash {synced : Sl} {tail : Sl} {keep : Int} {at_ : Int} {by_ : Int} {h : Heap} {R : Bool → Heap → Prop} (hs : S_law05_WalCrash synced tail keep at_ by_ h R) : C_law05_WalCrash synced tail keep at_ by_ h R :=
  use_ Try.func4 (by kernel_rfl) (E_law05_WalCrash synced tail keep at_ by_ h R) hs

/-- kissinggatelaw05.WalSpoilt -/
def S_law05_WalSpoilt (l : Sl) (tail : Sl) (at_ : Int) (by_ : Int) (h : Heap) (R : Bool → Heap → Prop) : Prop :=
  C_law05_fixed  h fun (r : Bool) h_ =>
  (bif !r then
    R false h_
  else
    (bif (l.n : Int) == 0 then
      R true h_
    else
      (bif decide ((l.n : Int) > 20) then
        R true h_
      else
        (bif decide ((tail.n : Int) > 300) then
          R true h_
        else
          (bif by_ == 0 then
            R true h_
          else
            C_disk_New  h_ fun (r1 : Option Addr) h_1 =>
            Loop [.one (.int .i64)] (fun _ (x37 : Int) h_2 go =>
              (bif decide (x37 < (l.n : Int)) then
                Ix l x37 2 fun e =>
                Ld (.int .u8) h_2 e fun (x_Kind : Int) =>
                Ld .sl h_2 (e.add 1) fun (x_Data : Sl) =>
                Alloc h_2 (.cells #[.int .u8 0, .slice none 0 0] 24) fun r2 h_3 =>
                St h_3 r2 (.int .u8 x_Kind) fun h_4 =>
                St h_4 (r2.add 1) (.slice x_Data.a x_Data.n x_Data.c) fun h_5 =>
                Ld .sl h_5 (r2.add 1) fun (Data : Sl) =>
                (bif decide ((Data.n : Int) > 300) then
                  R true h_5
                else
                  Ld (.int .u8) h_5 r2 fun (x_Kind1 : Int) =>
                  Ld .sl h_5 (r2.add 1) fun (x_Data1 : Sl) =>
                  C_wal_Append r1 (x_Kind1, x_Data1, ()) h_5 fun (r3 : Int) h_6 =>
                  (bif r3 != 0 then
                    R true h_6
                  else
                    go (IntKind.i64.wrap (x37 + 1)) h_6
                  )
                )
              else
                C_disk_Disk_Sync r1 h_2 fun (r4 : Int) h_7 =>
                C_disk_Disk_Write r1 tail h_7 fun (r5 : Int) h_8 =>
                C_disk_Disk_Len r1 h_8 fun (r6 : Int) h_9 =>
                C_disk_Disk_Synced r1 h_9 fun (r7 : Int) h_10 =>
                Nz (IntKind.u64.wrap r7) (
                C_disk_Disk_Spoil r1 (IntKind.i64.wrap (divV .rem .u64 (IntKind.u64.wrap at_) (IntKind.u64.wrap r7))) by_ h_10 fun (r8 : Int) h_11 =>
                (bif r8 != 0 then
                  R false h_11
                else
                  C_wal_Recover r1 h_11 fun (r9 : Sl) (r10 : Int) h_12 =>
                  (bif r10 == 3 then
                    (bif (r9.n : Int) == 0 then
                      C_disk_Disk_Len r1 h_12 fun (r11 : Int) h_13 =>
                      R (r11 == r6) h_13
                    else
                      R false h_12
                    )
                  else
                    R false h_12
                  )
                )
                )
              )
              ) (0, ()) h_1
          )
        )
      )
    )
  )
theorem E_law05_WalSpoilt (l : Sl) (tail : Sl) (at_ : Int) (by_ : Int) (h : Heap) (R : Bool → Heap → Prop) :
    VF Try.prog [(250, [(37, .one (.int .i64))])] Try.f5 [.slice l.a l.n l.c, .slice tail.a tail.n tail.c, .int .i64 at_, .int .u8 by_] h [.one .bool] R = S_law05_WalSpoilt l tail at_ by_ h R := by kernel_rfl
theorem A_law05_WalSpoilt {l : Sl} {tail : Sl} {at_ : Int} {by_ : Int} {h : Heap} {R : Bool → Heap → Prop} (hs : S_law05_WalSpoilt l tail at_ by_ h R) : C_law05_WalSpoilt l tail at_ by_ h R :=
  use_ Try.func5 (by kernel_rfl) (E_law05_WalSpoilt l tail at_ by_ h R) hs

/-- kissinggatelaw05.fixed -/
def S_law05_fixed  (h : Heap) (R : Bool → Heap → Prop) : Prop :=
  C_disk_New  h fun (r : Option Addr) h_ =>
  Alloc h_ (.cells #[.int .u8 120] 5) fun b h_1 =>
  Frz Try.prog 22 22 ⟨some b, 1, 1⟩ h_1 fun bs h_2 =>
  C_wal_Append r (1, bs, ()) h_2 fun (r1 : Int) h_3 =>
  C_disk_Disk_Sync r h_3 fun (r2 : Int) h_4 =>
  C_wal_Append r (2, ⟨none, 0, 0⟩, ()) h_4 fun (r3 : Int) h_5 =>
  C_disk_Disk_Crash r 5 (-1) 0 h_5 fun (r4 : Int) h_6 =>
  C_wal_Recover r h_6 fun (r5 : Sl) (r6 : Int) h_7 =>
  C_wal_Bytes (0, ⟨none, 0, 0⟩, ()) h_7 fun (r7 : Sl) (r8 : Int) h_8 =>
  C_wal_Recover none h_8 fun (r9 : Sl) (r10 : Int) h_9 =>
  (bif r1 == 0 then
    (bif r6 == 0 then
      (bif (r5.n : Int) == 1 then
        Ix r5 0 2 fun e =>
        Ld (.int .u8) h_9 e fun (Kind : Int) =>
        (bif Kind == 1 then
          Ix r5 0 2 fun e1 =>
          Ld .sl h_9 (e1.add 1) fun (Data : Sl) =>
          ToS Try.prog 22 9 Data h_9 fun str =>
          (bif str.toList == (⟨#[120]⟩ : ByteArray).toList then
            C_disk_Disk_Len r h_9 fun (r11 : Int) h_10 =>
            (bif r11 == 10 then
              C_disk_Disk_Synced r h_10 fun (r12 : Int) h_11 =>
              (bif r12 == 10 then
                (bif r8 == 1 then
                  (bif r10 == 1 then
                    C_wal_Append none (0, ⟨none, 0, 0⟩, ()) h_11 fun (r13 : Int) h_12 =>
                    R (r13 == 1) h_12
                  else
                    R false h_11
                  )
                else
                  R false h_11
                )
              else
                R false h_11
              )
            else
              R false h_10
            )
          else
            R false h_9
          )
        else
          R false h_9
        )
      else
        R false h_9
      )
    else
      R false h_9
    )
  else
    R false h_9
  )
theorem E_law05_fixed  (h : Heap) (R : Bool → Heap → Prop) :
    VF Try.prog [] Try.f15 [] h [.one .bool] R = S_law05_fixed  h R := by kernel_rfl
theorem A_law05_fixed  {h : Heap} {R : Bool → Heap → Prop} (hs : S_law05_fixed  h R) : C_law05_fixed  h R :=
  use_ Try.func15 (by kernel_rfl) (E_law05_fixed  h R) hs

/-- kissinggatelaw05.same -/
def S_law05_same (a : Sl) (b : Sl) (h : Heap) (R : Bool → Heap → Prop) : Prop :=
  (bif (a.n : Int) != (b.n : Int) then
    R false h
  else
    Loop [.one (.int .i64)] (fun _ (x13 : Int) h_ go =>
      (bif decide (x13 < (a.n : Int)) then
        Ix a x13 2 fun e =>
        Ld (.int .u8) h_ e fun (Kind : Int) =>
        Ix b x13 2 fun e1 =>
        Ld (.int .u8) h_ e1 fun (Kind1 : Int) =>
        (bif Kind != Kind1 then
          R false h_
        else
          Ix a x13 2 fun e2 =>
          Ld .sl h_ (e2.add 1) fun (Data : Sl) =>
          ToS Try.prog 22 9 Data h_ fun str =>
          Ix b x13 2 fun e3 =>
          Ld .str h_ (e3.add 1) fun (Data1 : ByteArray) =>
          (bif !(str.toList == Data1.toList) then
            R false h_
          else
            go (IntKind.i64.wrap (x13 + 1)) h_
          )
        )
      else
        R true h_
      )
      ) (0, ()) h
  )
theorem E_law05_same (a : Sl) (b : Sl) (h : Heap) (R : Bool → Heap → Prop) :
    VF Try.prog [(58, [(13, .one (.int .i64))])] Try.f18 [.slice a.a a.n a.c, .slice b.a b.n b.c] h [.one .bool] R = S_law05_same a b h R := by kernel_rfl
theorem A_law05_same {a : Sl} {b : Sl} {h : Heap} {R : Bool → Heap → Prop} (hs : S_law05_same a b h R) : C_law05_same a b h R :=
  use_ Try.func18 (by kernel_rfl) (E_law05_same a b h R) hs

end Go.Proofs.Ytnognoiaakiepaa
