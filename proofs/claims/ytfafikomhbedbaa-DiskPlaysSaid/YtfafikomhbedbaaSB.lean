/- Printed by a program: what each function asks of the heap, that this is the reading of its code, and what follows for a call. -/
import Derived.Test.YtfafikomhbedbaaSC
import Derived.Test.YtfafikomhbedbaaProg
set_option maxRecDepth 1000000
namespace Go.Proofs.Ytfafikomhbedbaa
open Go

/-- kissinggatelaw04.DiskPlays -/
def S_law04_DiskPlays (l : Sl) (h : Heap) (R : Bool → Heap → Prop) : Prop :=
  C_law04_fixed  h fun (r : Bool) h_ =>
  (bif !r then
    R false h_
  else
    (bif decide ((l.n : Int) > 80) then
      R true h_
    else
      C_disk_New  h_ fun (r1 : Option Addr) h_1 =>
      Loop [.one .str, .one .str, .one (.int .i64)] (fun _ (synced : ByteArray) (tail : ByteArray) (x19 : Int) h_2 go =>
        (bif decide (x19 < (l.n : Int)) then
          Ix l x19 5 fun e =>
          Ld (.int .u8) h_2 e fun (x_Kind : Int) =>
          Ld .sl h_2 (e.add 1) fun (x_B : Sl) =>
          Ld (.int .i64) h_2 (e.add 2) fun (x_Keep : Int) =>
          Ld (.int .i64) h_2 (e.add 3) fun (x_N : Int) =>
          Ld (.int .u8) h_2 (e.add 4) fun (x_By : Int) =>
          Alloc h_2 (.cells #[.int .u8 0, .slice none 0 0, .int .i64 0, .int .i64 0, .int .u8 0] 47) fun a h_3 =>
          St h_3 a (.int .u8 x_Kind) fun h_4 =>
          St h_4 (a.add 1) (.slice x_B.a x_B.n x_B.c) fun h_5 =>
          St h_5 (a.add 2) (.int .i64 x_Keep) fun h_6 =>
          St h_6 (a.add 3) (.int .i64 x_N) fun h_7 =>
          St h_7 (a.add 4) (.int .u8 x_By) fun h_8 =>
          Ld .sl h_8 (a.add 1) fun (B : Sl) =>
          (bif decide ((B.n : Int) > 300) then
            R true h_8
          else
            Ld (.int .u8) h_8 a fun (Kind : Int) =>
            Nz 5 (
            Join [.one .str, .one .str, .one (.int .i64), .one (.int .i64)] (fun _ (synced1 : ByteArray) (tail1 : ByteArray) (want : Int) (got : Int) h_9 =>
              (bif got != want then
                R false h_9
              else
                C_disk_Disk_Bytes r1 h_9 fun (r2 : Sl) h_10 =>
                ToS Try.prog 23 9 r2 h_10 fun str =>
                Cat synced1 tail1 fun str1 =>
                (bif !(str.toList == str1.toList) then
                  R false h_10
                else
                  C_disk_Disk_Synced r1 h_10 fun (r3 : Int) h_11 =>
                  (bif r3 != (synced1.size : Int) then
                    R false h_11
                  else
                    C_disk_Disk_Len r1 h_11 fun (r4 : Int) h_12 =>
                    (bif r4 != (IntKind.i64.wrap ((synced1.size : Int) + (tail1.size : Int))) then
                      R false h_12
                    else
                      go synced1 tail1 (IntKind.i64.wrap (x19 + 1)) h_12
                    )
                  )
                )
              )
              ) fun J =>
            (bif (divV .rem .u8 Kind 5) == 0 then
              Ld .sl h_8 (a.add 1) fun (B1 : Sl) =>
              ToS Try.prog 23 9 B1 h_8 fun str2 =>
              Cat tail str2 fun str3 =>
              Ld .sl h_8 (a.add 1) fun (B2 : Sl) =>
              C_disk_Disk_Write r1 B2 h_8 fun (r5 : Int) h_13 =>
              J synced str3 0 r5 h_13
            else
              (bif (divV .rem .u8 Kind 5) == 1 then
                Cat synced tail fun str4 =>
                C_disk_Disk_Sync r1 h_8 fun (r6 : Int) h_14 =>
                J str4 (⟨#[]⟩ : ByteArray) 0 r6 h_14
              else
                (bif (divV .rem .u8 Kind 5) == 2 then
                  Ld (.int .i64) h_8 (a.add 2) fun (Keep : Int) =>
                  CutS Try.prog 9 tail none (some (.int .i64 (if (tail.size : Int) < (if 0 > Keep then 0 else Keep) then (tail.size : Int) else if 0 > Keep then 0 else Keep))) fun s =>
                  Ld (.int .i64) h_8 (a.add 3) fun (N : Int) =>
                  (bif decide (N ≥ 0) then
                    Ld (.int .i64) h_8 (a.add 3) fun (N1 : Int) =>
                    Join [.one .str] (fun _ (tail2 : ByteArray) h_15 =>
                      Ld (.int .i64) h_15 (a.add 2) fun (Keep1 : Int) =>
                      Ld (.int .i64) h_15 (a.add 3) fun (N2 : Int) =>
                      Ld (.int .u8) h_15 (a.add 4) fun (By : Int) =>
                      C_disk_Disk_Crash r1 Keep1 N2 By h_15 fun (r7 : Int) h_16 =>
                      J synced tail2 0 r7 h_16
                      ) fun J1 =>
                    (bif decide (N1 < (s.size : Int)) then
                      Ld (.int .i64) h_8 (a.add 3) fun (N3 : Int) =>
                      CutS Try.prog 9 s none (some (.int .i64 N3)) fun s1 =>
                      Ld (.int .i64) h_8 (a.add 3) fun (N4 : Int) =>
                      IxS s N4 fun c =>
                      Ld (.int .u8) h_8 (a.add 4) fun (By1 : Int) =>
                      Ld (.int .i64) h_8 (a.add 3) fun (N5 : Int) =>
                      CutS Try.prog 9 s (some (.int .i64 (IntKind.i64.wrap (N5 + 1)))) none fun s2 =>
                      Alloc h_8 (.cells #[.int .u8 (bitV .xor .u8 c By1)] 5) fun b h_17 =>
                      (Ld (.int .i64) h_17 (a.add 3) fun (N6 : Int) => (.int .i64 N6 : Value) = .int .i64 N3) ∧
                      (Ld (.int .i64) h_17 (a.add 3) fun (N7 : Int) => (.int .i64 N7 : Value) = .int .i64 N5) ∧
                      ToS Try.prog 23 9 ⟨some b, 1, 1⟩ h_17 fun str5 =>
                      Cat s1 str5 fun str6 =>
                      Cat str6 s2 fun str7 =>
                      J1 str7 h_17
                    else
                      J1 s h_8
                    )
                  else
                    Join [.one .str] (fun _ (tail3 : ByteArray) h_18 =>
                      Ld (.int .i64) h_18 (a.add 2) fun (Keep2 : Int) =>
                      Ld (.int .i64) h_18 (a.add 3) fun (N8 : Int) =>
                      Ld (.int .u8) h_18 (a.add 4) fun (By2 : Int) =>
                      C_disk_Disk_Crash r1 Keep2 N8 By2 h_18 fun (r8 : Int) h_19 =>
                      J synced tail3 0 r8 h_19
                      ) fun J2 =>
                    J2 s h_8
                  )
                else
                  (bif (divV .rem .u8 Kind 5) == 3 then
                    Cat synced tail fun str8 =>
                    Ld (.int .i64) h_8 (a.add 3) fun (N9 : Int) =>
                    (bif decide (N9 < 0) then
                      Ld (.int .i64) h_8 (a.add 3) fun (N10 : Int) =>
                      C_disk_Disk_Cut r1 N10 h_8 fun (r9 : Int) h_20 =>
                      J synced tail 5 r9 h_20
                    else
                      Ld (.int .i64) h_8 (a.add 3) fun (N11 : Int) =>
                      (bif decide (N11 > (str8.size : Int)) then
                        Ld (.int .i64) h_8 (a.add 3) fun (N12 : Int) =>
                        C_disk_Disk_Cut r1 N12 h_8 fun (r10 : Int) h_21 =>
                        J synced tail 5 r10 h_21
                      else
                        Ld (.int .i64) h_8 (a.add 3) fun (N13 : Int) =>
                        CutS Try.prog 9 str8 none (some (.int .i64 N13)) fun s3 =>
                        Ld (.int .i64) h_8 (a.add 3) fun (N14 : Int) =>
                        C_disk_Disk_Cut r1 N14 h_8 fun (r11 : Int) h_22 =>
                        J s3 (⟨#[]⟩ : ByteArray) 0 r11 h_22
                      )
                    )
                  else
                    (bif (divV .rem .u8 Kind 5) == 4 then
                      Ld (.int .i64) h_8 (a.add 3) fun (N15 : Int) =>
                      (bif decide (N15 < 0) then
                        Join [.one .str, .one (.int .i64)] (fun _ (synced2 : ByteArray) (want1 : Int) h_23 =>
                          Ld (.int .i64) h_23 (a.add 3) fun (N16 : Int) =>
                          Ld (.int .u8) h_23 (a.add 4) fun (By3 : Int) =>
                          C_disk_Disk_Spoil r1 N16 By3 h_23 fun (r12 : Int) h_24 =>
                          J synced2 tail want1 r12 h_24
                          ) fun J3 =>
                        J3 synced 5 h_8
                      else
                        Ld (.int .i64) h_8 (a.add 3) fun (N17 : Int) =>
                        Join [.one .str, .one (.int .i64)] (fun _ (synced3 : ByteArray) (want2 : Int) h_25 =>
                          Ld (.int .i64) h_25 (a.add 3) fun (N18 : Int) =>
                          Ld (.int .u8) h_25 (a.add 4) fun (By4 : Int) =>
                          C_disk_Disk_Spoil r1 N18 By4 h_25 fun (r13 : Int) h_26 =>
                          J synced3 tail want2 r13 h_26
                          ) fun J4 =>
                        (bif decide (N17 ≥ (synced.size : Int)) then
                          J4 synced 5 h_8
                        else
                          Ld (.int .i64) h_8 (a.add 3) fun (N19 : Int) =>
                          CutS Try.prog 9 synced none (some (.int .i64 N19)) fun s4 =>
                          Ld (.int .i64) h_8 (a.add 3) fun (N20 : Int) =>
                          IxS synced N20 fun c1 =>
                          Ld (.int .u8) h_8 (a.add 4) fun (By5 : Int) =>
                          Ld (.int .i64) h_8 (a.add 3) fun (N21 : Int) =>
                          CutS Try.prog 9 synced (some (.int .i64 (IntKind.i64.wrap (N21 + 1)))) none fun s5 =>
                          Alloc h_8 (.cells #[.int .u8 (bitV .xor .u8 c1 By5)] 5) fun b1 h_27 =>
                          (Ld (.int .i64) h_27 (a.add 3) fun (N22 : Int) => (.int .i64 N22 : Value) = .int .i64 N19) ∧
                          (Ld (.int .i64) h_27 (a.add 3) fun (N23 : Int) => (.int .i64 N23 : Value) = .int .i64 N21) ∧
                          ToS Try.prog 23 9 ⟨some b1, 1, 1⟩ h_27 fun str9 =>
                          Cat s4 str9 fun str10 =>
                          Cat str10 s5 fun str11 =>
                          J4 str11 0 h_27
                        )
                      )
                    else
                      J synced tail 0 0 h_8
                    )
                  )
                )
              )
            )
            )
          )
        else
          R true h_2
        )
        ) ((⟨#[]⟩ : ByteArray), (⟨#[]⟩ : ByteArray), 0, ()) h_1
    )
  )
theorem E_law04_DiskPlays (l : Sl) (h : Heap) (R : Bool → Heap → Prop) :
    VF Try.prog [(506, [(4, .one .str), (5, .one .str), (19, .one (.int .i64))]), (518557, [(4, .one .str), (5, .one .str), (8, .one (.int .i64)), (9, .one (.int .i64))]), (531002869, [(5, .one .str)]), (531002869, [(5, .one .str)]), (4248023033, [(4, .one .str), (8, .one (.int .i64))]), (4248023033, [(4, .one .str), (8, .one (.int .i64))])] Try.f6 [.slice l.a l.n l.c] h [.one .bool] R = S_law04_DiskPlays l h R := by kernel_rfl
theorem A_law04_DiskPlays {l : Sl} {h : Heap} {R : Bool → Heap → Prop} (hs : S_law04_DiskPlays l h R) : C_law04_DiskPlays l h R :=
  VF_sound (an := [(506, [(4, .one .str), (5, .one .str), (19, .one (.int .i64))]), (518557, [(4, .one .str), (5, .one .str), (8, .one (.int .i64)), (9, .one (.int .i64))]), (531002869, [(5, .one .str)]), (531002869, [(5, .one .str)]), (4248023033, [(4, .one .str), (8, .one (.int .i64))]), (4248023033, [(4, .one .str), (8, .one (.int .i64))])]) (fn := Try.f6) (args := [.slice l.a l.n l.c]) mixed_ Try.func6 (by kernel_rfl) (cast (E_law04_DiskPlays l h R).symm hs)

/-- kissinggatelaw04.DiskFull -/
def S_law04_DiskFull (less : Int) (more : Int) (h : Heap) (R : Bool → Heap → Prop) : Prop :=
  C_law04_fixed  h fun (r : Bool) h_ =>
  (bif !r then
    R false h_
  else
    C_disk_New  h_ fun (r1 : Option Addr) h_1 =>
    Let (IntKind.i64.wrap (1048576 - (IntKind.i64.wrap less)) : Int) fun n =>
    Mk Try.prog 23 n n h_1 fun s h_2 =>
    C_disk_Disk_Write r1 s h_2 fun (r2 : Int) h_3 =>
    Mk Try.prog 23 (IntKind.i64.wrap more) (IntKind.i64.wrap more) h_3 fun s1 h_4 =>
    C_disk_Disk_Write r1 s1 h_4 fun (r3 : Int) h_5 =>
    (bif r2 != 0 then
      R false h_5
    else
      (bif decide ((IntKind.i64.wrap more) > (IntKind.i64.wrap less)) then
        Join [.one .bool] (fun _ (x4 : Bool) h_6 =>
          R x4 h_6
          ) fun J =>
        (bif r3 == 7 then
          C_disk_Disk_Len r1 h_5 fun (r4 : Int) h_7 =>
          J (r4 == n) h_7
        else
          J false h_5
        )
      else
        (bif r3 == 0 then
          C_disk_Disk_Len r1 h_5 fun (r5 : Int) h_8 =>
          R (r5 == (IntKind.i64.wrap (n + (IntKind.i64.wrap more)))) h_8
        else
          R false h_5
        )
      )
    )
  )
theorem E_law04_DiskFull (less : Int) (more : Int) (h : Heap) (R : Bool → Heap → Prop) :
    VF Try.prog [(4084, [(4, .one .bool)])] Try.f7 [.int .u16 less, .int .u16 more] h [.one .bool] R = S_law04_DiskFull less more h R := by kernel_rfl
theorem A_law04_DiskFull {less : Int} {more : Int} {h : Heap} {R : Bool → Heap → Prop} (hs : S_law04_DiskFull less more h R) : C_law04_DiskFull less more h R :=
  VF_sound (an := [(4084, [(4, .one .bool)])]) (fn := Try.f7) (args := [.int .u16 less, .int .u16 more]) mixed_ Try.func7 (by kernel_rfl) (cast (E_law04_DiskFull less more h R).symm hs)

/-- kissinggatelaw04.fixed -/
def S_law04_fixed  (h : Heap) (R : Bool → Heap → Prop) : Prop :=
  C_disk_New  h fun (r : Option Addr) h_ =>
  Alloc h_ (.cells #[.int .u8 97, .int .u8 98] 5) fun b h_1 =>
  Frz Try.prog 23 23 ⟨some b, 2, 2⟩ h_1 fun bs h_2 =>
  C_disk_Disk_Write r bs h_2 fun (r1 : Int) h_3 =>
  C_disk_Disk_Sync r h_3 fun (r2 : Int) h_4 =>
  Alloc h_4 (.cells #[.int .u8 99, .int .u8 100] 5) fun b1 h_5 =>
  Frz Try.prog 23 23 ⟨some b1, 2, 2⟩ h_5 fun bs1 h_6 =>
  C_disk_Disk_Write r bs1 h_6 fun (r3 : Int) h_7 =>
  C_disk_Disk_Crash r 1 0 1 h_7 fun (r4 : Int) h_8 =>
  C_disk_Disk_Spoil r 2 1 h_8 fun (r5 : Int) h_9 =>
  C_disk_Disk_Cut r 9 h_9 fun (r6 : Int) h_10 =>
  (bif r1 == 0 then
    (bif r2 == 0 then
      (bif r4 == 0 then
        C_disk_Disk_Bytes r h_10 fun (r7 : Sl) h_11 =>
        ToS Try.prog 23 9 r7 h_11 fun str =>
        (bif str.toList == (⟨#[97, 98, 98]⟩ : ByteArray).toList then
          C_disk_Disk_Synced r h_11 fun (r8 : Int) h_12 =>
          (bif r8 == 2 then
            C_disk_Disk_Len r h_12 fun (r9 : Int) h_13 =>
            (bif r9 == 3 then
              (bif r5 == 5 then
                (bif r6 == 5 then
                  C_disk_Disk_Write none ⟨none, 0, 0⟩ h_13 fun (r10 : Int) h_14 =>
                  (bif r10 == 1 then
                    C_disk_Disk_Sync none h_14 fun (r11 : Int) h_15 =>
                    (bif r11 == 1 then
                      C_disk_Disk_Len none h_15 fun (r12 : Int) h_16 =>
                      C_disk_Disk_Synced none h_16 fun (r13 : Int) h_17 =>
                      C_disk_Disk_Bytes none h_17 fun (r14 : Sl) h_18 =>
                      R ((IntKind.i64.wrap ((IntKind.i64.wrap (r12 + r13)) + (r14.n : Int))) == 0) h_18
                    else
                      R false h_15
                    )
                  else
                    R false h_14
                  )
                else
                  R false h_13
                )
              else
                R false h_13
              )
            else
              R false h_13
            )
          else
            R false h_12
          )
        else
          R false h_11
        )
      else
        R false h_10
      )
    else
      R false h_10
    )
  else
    R false h_10
  )
theorem E_law04_fixed  (h : Heap) (R : Bool → Heap → Prop) :
    VF Try.prog [] Try.f32 [] h [.one .bool] R = S_law04_fixed  h R := by kernel_rfl
theorem A_law04_fixed  {h : Heap} {R : Bool → Heap → Prop} (hs : S_law04_fixed  h R) : C_law04_fixed  h R :=
  VF_sound (an := []) (fn := Try.f32) (args := []) mixed_ Try.func32 (by kernel_rfl) (cast (E_law04_fixed  h R).symm hs)

/-- disk.New -/
def S_disk_New  (h : Heap) (R : Option Addr → Heap → Prop) : Prop :=
  Alloc h (.cells #[.slice none 0 0, .int .i64 0] 98) fun p h_ =>
  R (some p) h_
theorem E_disk_New  (h : Heap) (R : Option Addr → Heap → Prop) :
    VF Try.prog [] Try.f33 [] h [.one .ptr] R = S_disk_New  h R := by kernel_rfl
theorem A_disk_New  {h : Heap} {R : Option Addr → Heap → Prop} (hs : S_disk_New  h R) : C_disk_New  h R :=
  VF_sound (an := []) (fn := Try.f33) (args := []) mixed_ Try.func33 (by kernel_rfl) (cast (E_disk_New  h R).symm hs)

/-- (*disk.Disk).Write -/
def S_disk_Disk_Write (d : Option Addr) (b : Sl) (h : Heap) (R : Int → Heap → Prop) : Prop :=
  (bif d.isNone then
    R 1 h
  else
    Nn d fun p =>
    Ld .sl h p fun (b1 : Sl) =>
    (bif decide ((IntKind.i64.wrap ((b1.n : Int) + (b.n : Int))) > 1048576) then
      R 7 h
    else
      Nn d fun p1 =>
      Ld .sl h p1 fun (b2 : Sl) =>
      App Try.prog 23 23 b2 b h fun s h_ =>
      Nn d fun p2 =>
      St h_ p2 (.slice s.a s.n s.c) fun h_1 =>
      R 0 h_1
    )
  )
theorem E_disk_Disk_Write (d : Option Addr) (b : Sl) (h : Heap) (R : Int → Heap → Prop) :
    VF Try.prog [] Try.f34 [.pointer d, .slice b.a b.n b.c] h [.one (.int .i64)] R = S_disk_Disk_Write d b h R := by kernel_rfl
theorem A_disk_Disk_Write {d : Option Addr} {b : Sl} {h : Heap} {R : Int → Heap → Prop} (hs : S_disk_Disk_Write d b h R) : C_disk_Disk_Write d b h R :=
  VF_sound (an := []) (fn := Try.f34) (args := [.pointer d, .slice b.a b.n b.c]) mixed_ Try.func34 (by kernel_rfl) (cast (E_disk_Disk_Write d b h R).symm hs)

/-- (*disk.Disk).Sync -/
def S_disk_Disk_Sync (d : Option Addr) (h : Heap) (R : Int → Heap → Prop) : Prop :=
  (bif d.isNone then
    R 1 h
  else
    Nn d fun p =>
    Ld .sl h p fun (b : Sl) =>
    Nn d fun p1 =>
    St h (p1.add 1) (.int .i64 (b.n : Int)) fun h_ =>
    R 0 h_
  )
theorem E_disk_Disk_Sync (d : Option Addr) (h : Heap) (R : Int → Heap → Prop) :
    VF Try.prog [] Try.f35 [.pointer d] h [.one (.int .i64)] R = S_disk_Disk_Sync d h R := by kernel_rfl
theorem A_disk_Disk_Sync {d : Option Addr} {h : Heap} {R : Int → Heap → Prop} (hs : S_disk_Disk_Sync d h R) : C_disk_Disk_Sync d h R :=
  VF_sound (an := []) (fn := Try.f35) (args := [.pointer d]) mixed_ Try.func35 (by kernel_rfl) (cast (E_disk_Disk_Sync d h R).symm hs)

/-- (*disk.Disk).Crash -/
def S_disk_Disk_Crash (d : Option Addr) (keep : Int) (at_ : Int) (by_ : Int) (h : Heap) (R : Int → Heap → Prop) : Prop :=
  (bif d.isNone then
    R 1 h
  else
    Nn d fun p =>
    Ld .sl h p fun (b : Sl) =>
    Nn d fun p1 =>
    Ld (.int .i64) h (p1.add 1) fun (synced : Int) =>
    Let (if (IntKind.i64.wrap ((b.n : Int) - synced)) < (if 0 > keep then 0 else keep) then IntKind.i64.wrap ((b.n : Int) - synced) else if 0 > keep then 0 else keep : Int) fun keep1 =>
    Nn d fun p2 =>
    Ld .sl h p2 fun (b1 : Sl) =>
    Nn d fun p3 =>
    Ld (.int .i64) h (p3.add 1) fun (synced1 : Int) =>
    Cut Try.prog 23 b1 none (some (.int .i64 (IntKind.i64.wrap (synced1 + keep1)))) none fun s =>
    Nn d fun p4 =>
    St h p4 (.slice s.a s.n s.c) fun h_ =>
    (bif decide (at_ ≥ 0) then
      (bif decide (at_ < keep1) then
        Nn d fun p5 =>
        Ld .sl h_ p5 fun (b2 : Sl) =>
        Nn d fun p6 =>
        Ld (.int .i64) h_ (p6.add 1) fun (synced2 : Int) =>
        Ix b2 (IntKind.i64.wrap (synced2 + at_)) 1 fun e =>
        Ld (.int .u8) h_ e fun (x : Int) =>
        Ix b2 (IntKind.i64.wrap (synced2 + at_)) 1 fun e1 =>
        St h_ e1 (.int .u8 (bitV .xor .u8 x by_)) fun h_1 =>
        R 0 h_1
      else
        R 0 h_
      )
    else
      R 0 h_
    )
  )
theorem E_disk_Disk_Crash (d : Option Addr) (keep : Int) (at_ : Int) (by_ : Int) (h : Heap) (R : Int → Heap → Prop) :
    VF Try.prog [] Try.f36 [.pointer d, .int .i64 keep, .int .i64 at_, .int .u8 by_] h [.one (.int .i64)] R = S_disk_Disk_Crash d keep at_ by_ h R := by kernel_rfl
theorem A_disk_Disk_Crash {d : Option Addr} {keep : Int} {at_ : Int} {by_ : Int} {h : Heap} {R : Int → Heap → Prop} (hs : S_disk_Disk_Crash d keep at_ by_ h R) : C_disk_Disk_Crash d keep at_ by_ h R :=
  VF_sound (an := []) (fn := Try.f36) (args := [.pointer d, .int .i64 keep, .int .i64 at_, .int .u8 by_]) mixed_ Try.func36 (by kernel_rfl) (cast (E_disk_Disk_Crash d keep at_ by_ h R).symm hs)

/-- (*disk.Disk).Cut -/
def S_disk_Disk_Cut (d : Option Addr) (n : Int) (h : Heap) (R : Int → Heap → Prop) : Prop :=
  Join [] (fun _ h_ =>
    Nn d fun p =>
    Ld .sl h_ p fun (b : Sl) =>
    Cut Try.prog 23 b none (some (.int .i64 n)) none fun s =>
    Nn d fun p1 =>
    St h_ p1 (.slice s.a s.n s.c) fun h_1 =>
    C_disk_Disk_Sync d h_1 fun (r : Int) h_2 =>
    R r h_2
    ) fun J =>
  (bif d.isNone then
    R 1 h
  else
    (bif decide (n < 0) then
      R 5 h
    else
      Nn d fun p2 =>
      Ld .sl h p2 fun (b1 : Sl) =>
      (bif decide (n > (b1.n : Int)) then
        R 5 h
      else
        J  h
      )
    )
  )
theorem E_disk_Disk_Cut (d : Option Addr) (n : Int) (h : Heap) (R : Int → Heap → Prop) :
    VF Try.prog [(6, [])] Try.f37 [.pointer d, .int .i64 n] h [.one (.int .i64)] R = S_disk_Disk_Cut d n h R := by kernel_rfl
theorem A_disk_Disk_Cut {d : Option Addr} {n : Int} {h : Heap} {R : Int → Heap → Prop} (hs : S_disk_Disk_Cut d n h R) : C_disk_Disk_Cut d n h R :=
  VF_sound (an := [(6, [])]) (fn := Try.f37) (args := [.pointer d, .int .i64 n]) mixed_ Try.func37 (by kernel_rfl) (cast (E_disk_Disk_Cut d n h R).symm hs)

/-- (*disk.Disk).Spoil -/
def S_disk_Disk_Spoil (d : Option Addr) (at_ : Int) (by_ : Int) (h : Heap) (R : Int → Heap → Prop) : Prop :=
  Join [] (fun _ h_ =>
    Nn d fun p =>
    Ld .sl h_ p fun (b : Sl) =>
    Ix b at_ 1 fun e =>
    Ld (.int .u8) h_ e fun (x : Int) =>
    Ix b at_ 1 fun e1 =>
    St h_ e1 (.int .u8 (bitV .xor .u8 x by_)) fun h_1 =>
    R 0 h_1
    ) fun J =>
  (bif d.isNone then
    R 1 h
  else
    (bif decide (at_ < 0) then
      R 5 h
    else
      Nn d fun p1 =>
      Ld (.int .i64) h (p1.add 1) fun (synced : Int) =>
      (bif decide (at_ ≥ synced) then
        R 5 h
      else
        J  h
      )
    )
  )
theorem E_disk_Disk_Spoil (d : Option Addr) (at_ : Int) (by_ : Int) (h : Heap) (R : Int → Heap → Prop) :
    VF Try.prog [(6, [])] Try.f38 [.pointer d, .int .i64 at_, .int .u8 by_] h [.one (.int .i64)] R = S_disk_Disk_Spoil d at_ by_ h R := by kernel_rfl
theorem A_disk_Disk_Spoil {d : Option Addr} {at_ : Int} {by_ : Int} {h : Heap} {R : Int → Heap → Prop} (hs : S_disk_Disk_Spoil d at_ by_ h R) : C_disk_Disk_Spoil d at_ by_ h R :=
  VF_sound (an := [(6, [])]) (fn := Try.f38) (args := [.pointer d, .int .i64 at_, .int .u8 by_]) mixed_ Try.func38 (by kernel_rfl) (cast (E_disk_Disk_Spoil d at_ by_ h R).symm hs)

/-- (*disk.Disk).Bytes -/
def S_disk_Disk_Bytes (d : Option Addr) (h : Heap) (R : Sl → Heap → Prop) : Prop :=
  (bif d.isNone then
    R ⟨none, 0, 0⟩ h
  else
    Nn d fun p =>
    Ld .sl h p fun (b : Sl) =>
    C_bytes_Clone b h fun (r : Sl) h_ =>
    R r h_
  )
theorem E_disk_Disk_Bytes (d : Option Addr) (h : Heap) (R : Sl → Heap → Prop) :
    VF Try.prog [] Try.f39 [.pointer d] h [.one .sl] R = S_disk_Disk_Bytes d h R := by kernel_rfl
theorem A_disk_Disk_Bytes {d : Option Addr} {h : Heap} {R : Sl → Heap → Prop} (hs : S_disk_Disk_Bytes d h R) : C_disk_Disk_Bytes d h R :=
  VF_sound (an := []) (fn := Try.f39) (args := [.pointer d]) mixed_ Try.func39 (by kernel_rfl) (cast (E_disk_Disk_Bytes d h R).symm hs)

/-- (*disk.Disk).Synced -/
def S_disk_Disk_Synced (d : Option Addr) (h : Heap) (R : Int → Heap → Prop) : Prop :=
  (bif d.isNone then
    R 0 h
  else
    Nn d fun p =>
    Ld (.int .i64) h (p.add 1) fun (synced : Int) =>
    R synced h
  )
theorem E_disk_Disk_Synced (d : Option Addr) (h : Heap) (R : Int → Heap → Prop) :
    VF Try.prog [] Try.f40 [.pointer d] h [.one (.int .i64)] R = S_disk_Disk_Synced d h R := by kernel_rfl
theorem A_disk_Disk_Synced {d : Option Addr} {h : Heap} {R : Int → Heap → Prop} (hs : S_disk_Disk_Synced d h R) : C_disk_Disk_Synced d h R :=
  VF_sound (an := []) (fn := Try.f40) (args := [.pointer d]) mixed_ Try.func40 (by kernel_rfl) (cast (E_disk_Disk_Synced d h R).symm hs)

/-- (*disk.Disk).Len -/
def S_disk_Disk_Len (d : Option Addr) (h : Heap) (R : Int → Heap → Prop) : Prop :=
  (bif d.isNone then
    R 0 h
  else
    Nn d fun p =>
    Ld .sl h p fun (b : Sl) =>
    R (b.n : Int) h
  )
theorem E_disk_Disk_Len (d : Option Addr) (h : Heap) (R : Int → Heap → Prop) :
    VF Try.prog [] Try.f41 [.pointer d] h [.one (.int .i64)] R = S_disk_Disk_Len d h R := by kernel_rfl
theorem A_disk_Disk_Len {d : Option Addr} {h : Heap} {R : Int → Heap → Prop} (hs : S_disk_Disk_Len d h R) : C_disk_Disk_Len d h R :=
  VF_sound (an := []) (fn := Try.f41) (args := [.pointer d]) mixed_ Try.func41 (by kernel_rfl) (cast (E_disk_Disk_Len d h R).symm hs)

/-- bytes.Clone -/
def S_bytes_Clone (b : Sl) (h : Heap) (R : Sl → Heap → Prop) : Prop :=
  (bif b.a.isNone then
    R ⟨none, 0, 0⟩ h
  else
    Alloc h (.cells #[] 5) fun b1 h_ =>
    App Try.prog 23 23 ⟨some b1, 0, 0⟩ b h_ fun s h_1 =>
    R s h_1
  )
theorem E_bytes_Clone (b : Sl) (h : Heap) (R : Sl → Heap → Prop) :
    VF Try.prog [] Try.f69 [.slice b.a b.n b.c] h [.one .sl] R = S_bytes_Clone b h R := by kernel_rfl
theorem A_bytes_Clone {b : Sl} {h : Heap} {R : Sl → Heap → Prop} (hs : S_bytes_Clone b h R) : C_bytes_Clone b h R :=
  VF_sound (an := []) (fn := Try.f69) (args := [.slice b.a b.n b.c]) mixed_ Try.func69 (by kernel_rfl) (cast (E_bytes_Clone b h R).symm hs)

end Go.Proofs.Ytfafikomhbedbaa
