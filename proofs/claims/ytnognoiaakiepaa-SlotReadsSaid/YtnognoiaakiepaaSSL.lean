/- Printed by a program: what each function asks of the heap, that this is the reading of its code, and what follows for a call. -/
import Derived.Test.YtnognoiaakiepaaSC
import Derived.Test.YtnognoiaakiepaaProg
set_option maxRecDepth 1000000
namespace Go.Proofs.Ytnognoiaakiepaa
open Go

/-- kissinggatelaw33.SlotReads -/
def S_law33_SlotReads (l : Sl) (content : Sl) (h : Heap) (R : Bool → Heap → Prop) : Prop :=
  C_law33_fixed  h fun (r : Bool) h_ =>
  (bif !r then
    R false h_
  else
    C_law33_few l h_ fun (r1 : Bool) h_1 =>
    (bif !r1 then
      R true h_1
    else
      (bif decide ((content.n : Int) > 200) then
        R true h_1
      else
        C_slot_New  h_1 fun (r2 : Option Addr) h_2 =>
        Loop [.one (.int .i64)] (fun _ (x34 : Int) h_3 go =>
          (bif decide (x34 < (l.n : Int)) then
            Ix l x34 6 fun e =>
            Ld (.int .u8) h_3 e fun (x_Kind : Int) =>
            Ld .sl h_3 (e.add 1) fun (x_Content : Sl) =>
            Ld (.int .i64) h_3 (e.add 2) fun (x_Steps : Int) =>
            Ld (.int .i64) h_3 (e.add 3) fun (x_Keep : Int) =>
            Ld (.int .i64) h_3 (e.add 4) fun (x_At : Int) =>
            Ld (.int .u8) h_3 (e.add 5) fun (x_By : Int) =>
            Alloc h_3 (.cells #[.int .u8 0, .slice none 0 0, .int .i64 0, .int .i64 0, .int .i64 0, .int .u8 0] 98) fun a h_4 =>
            St h_4 a (.int .u8 x_Kind) fun h_5 =>
            St h_5 (a.add 1) (.slice x_Content.a x_Content.n x_Content.c) fun h_6 =>
            St h_6 (a.add 2) (.int .i64 x_Steps) fun h_7 =>
            St h_7 (a.add 3) (.int .i64 x_Keep) fun h_8 =>
            St h_8 (a.add 4) (.int .i64 x_At) fun h_9 =>
            St h_9 (a.add 5) (.int .u8 x_By) fun h_10 =>
            Ld (.int .u8) h_10 a fun (Kind : Int) =>
            Nz 5 (
            Join [] (fun _ h_11 =>
              C_slot_Pair_Bytes r2 0 h_11 fun (r3 : Sl) h_12 =>
              C_slot_Pair_Bytes r2 1 h_12 fun (r4 : Sl) h_13 =>
              C_ref33_Newest r3 r4 h_13 fun (r5 : ByteArray) (r6 : Int) h_14 =>
              C_slot_Pair_Read r2 h_14 fun (r7 : Sl) (r8 : Int) (r9 : Int) h_15 =>
              ToS Try.prog 22 9 r7 h_15 fun str =>
              (bif !(str.toList == r5.toList) then
                R false h_15
              else
                (bif r6 != r8 then
                  R false h_15
                else
                  (bif !((r9 == 0) == (decide (r6 > 0))) then
                    R false h_15
                  else
                    (bif r6 == 0 then
                      (bif r9 != 6 then
                        R false h_15
                      else
                        go (IntKind.i64.wrap (x34 + 1)) h_15
                      )
                    else
                      go (IntKind.i64.wrap (x34 + 1)) h_15
                    )
                  )
                )
              )
              ) fun J =>
            Join [.one .bool] (fun _ (x41 : Bool) h_16 =>
              (bif x41 then
                Ld .sl h_16 (a.add 1) fun (Content : Sl) =>
                C_slot_Pair_Install r2 Content h_16 fun (r10 : Int) h_17 =>
                J  h_17
              else
                Join [.one .bool] (fun _ (x48 : Bool) h_18 =>
                  (bif x48 then
                    Ld .sl h_18 (a.add 1) fun (Content1 : Sl) =>
                    Ld (.int .i64) h_18 (a.add 2) fun (Steps : Int) =>
                    Ld (.int .i64) h_18 (a.add 3) fun (Keep : Int) =>
                    Ld (.int .i64) h_18 (a.add 4) fun (At_ : Int) =>
                    Ld (.int .u8) h_18 (a.add 5) fun (By : Int) =>
                    C_slot_Pair_Torn r2 Content1 Steps Keep At_ By h_18 fun (r11 : Int) h_19 =>
                    J  h_19
                  else
                    (bif (divV .rem .u8 Kind 5) == 4 then
                      Ld (.int .u8) h_18 (a.add 5) fun (By1 : Int) =>
                      Nz 2 (
                      Ld (.int .i64) h_18 (a.add 4) fun (At_1 : Int) =>
                      Ld (.int .u8) h_18 (a.add 5) fun (By2 : Int) =>
                      C_slot_Pair_Spoil r2 (IntKind.i64.wrap (divV .rem .u8 By1 2)) At_1 By2 h_18 fun (r12 : Int) h_20 =>
                      J  h_20
                      )
                    else
                      J  h_18
                    )
                  )
                  ) fun J2 =>
                (bif (divV .rem .u8 Kind 5) == 2 then
                  J2 ((divV .rem .u8 Kind 5) == 2) h_16
                else
                  J2 ((divV .rem .u8 Kind 5) == 3) h_16
                )
              )
              ) fun J1 =>
            (bif (divV .rem .u8 Kind 5) == 0 then
              J1 ((divV .rem .u8 Kind 5) == 0) h_10
            else
              J1 ((divV .rem .u8 Kind 5) == 1) h_10
            )
            )
          else
            C_slot_Pair_Bytes r2 0 h_3 fun (r13 : Sl) h_21 =>
            ToS Try.prog 22 9 r13 h_21 fun str1 =>
            C_slot_Pair_Bytes r2 1 h_21 fun (r14 : Sl) h_22 =>
            (ToS Try.prog 22 9 r13 h_22 fun str2 => (.string str2 : Value) = .string str1) ∧
            ToS Try.prog 22 9 r14 h_22 fun str3 =>
            ToB Try.prog 9 22 str1 h_22 fun bs h_23 =>
            C_ref33_Whole bs h_23 fun (r15 : ByteArray) (r16 : Int) h_24 =>
            ToB Try.prog 9 22 str3 h_24 fun bs1 h_25 =>
            C_ref33_Whole bs1 h_25 fun (r17 : ByteArray) (r18 : Int) h_26 =>
            C_slot_Pair_Install r2 content h_26 fun (r19 : Int) h_27 =>
            (bif decide ((if r18 > r16 then r18 else r16) ≥ 1099511627776) then
              Join [.one .bool] (fun _ (x4 : Bool) h_28 =>
                R x4 h_28
                ) fun J3 =>
              (bif r19 == 7 then
                C_slot_Pair_Bytes r2 0 h_27 fun (r20 : Sl) h_29 =>
                ToS Try.prog 22 9 r20 h_29 fun str4 =>
                (bif str4.toList == str1.toList then
                  C_slot_Pair_Bytes r2 1 h_29 fun (r21 : Sl) h_30 =>
                  ToS Try.prog 22 9 r21 h_30 fun str5 =>
                  J3 (str5.toList == str3.toList) h_30
                else
                  J3 false h_29
                )
              else
                J3 false h_27
              )
            else
              (bif r19 != 0 then
                R false h_27
              else
                C_ref33_Bytes (IntKind.i64.wrap ((if r18 > r16 then r18 else r16) + 1)) content h_27 fun (r22 : ByteArray) h_31 =>
                (bif decide (r16 ≥ r18) then
                  (bif decide (r16 > 0) then
                    Join [.one .bool] (fun _ (x42 : Bool) h_32 =>
                      R x42 h_32
                      ) fun J4 =>
                    C_slot_Pair_Bytes r2 0 h_31 fun (r23 : Sl) h_33 =>
                    ToS Try.prog 22 9 r23 h_33 fun str6 =>
                    (bif str6.toList == str1.toList then
                      C_slot_Pair_Bytes r2 1 h_33 fun (r24 : Sl) h_34 =>
                      ToS Try.prog 22 9 r24 h_34 fun str7 =>
                      J4 (str7.toList == r22.toList) h_34
                    else
                      J4 false h_33
                    )
                  else
                    C_slot_Pair_Bytes r2 0 h_31 fun (r25 : Sl) h_35 =>
                    ToS Try.prog 22 9 r25 h_35 fun str8 =>
                    (bif str8.toList == r22.toList then
                      C_slot_Pair_Bytes r2 1 h_35 fun (r26 : Sl) h_36 =>
                      ToS Try.prog 22 9 r26 h_36 fun str9 =>
                      R (str9.toList == str3.toList) h_36
                    else
                      R false h_35
                    )
                  )
                else
                  C_slot_Pair_Bytes r2 0 h_31 fun (r27 : Sl) h_37 =>
                  ToS Try.prog 22 9 r27 h_37 fun str10 =>
                  (bif str10.toList == r22.toList then
                    C_slot_Pair_Bytes r2 1 h_37 fun (r28 : Sl) h_38 =>
                    ToS Try.prog 22 9 r28 h_38 fun str11 =>
                    R (str11.toList == str3.toList) h_38
                  else
                    R false h_37
                  )
                )
              )
            )
          )
          ) (0, ()) h_2
      )
    )
  )
theorem E_law33_SlotReads (l : Sl) (content : Sl) (h : Heap) (R : Bool → Heap → Prop) :
    VF Try.prog [(250, [(34, .one (.int .i64))]), (64101, []), (512809, [(41, .one .bool)]), (2051245, [(48, .one .bool)]), (16364, [(4, .one .bool)]), (32756, [(4, .one .bool)])] Try.f10 [.slice l.a l.n l.c, .slice content.a content.n content.c] h [.one .bool] R = S_law33_SlotReads l content h R := by kernel_rfl
theorem A_law33_SlotReads {l : Sl} {content : Sl} {h : Heap} {R : Bool → Heap → Prop} (hs : S_law33_SlotReads l content h R) : C_law33_SlotReads l content h R :=
  use_ Try.func10 (by kernel_rfl) (E_law33_SlotReads l content h R) hs

/-- kissinggatelaw33.SlotSpoilt -/
def S_law33_SlotSpoilt (l : Sl) (which : Int) (at_ : Int) (by_ : Int) (h : Heap) (R : Bool → Heap → Prop) : Prop :=
  C_law33_fixed  h fun (r : Bool) h_ =>
  (bif !r then
    R false h_
  else
    (bif decide ((l.n : Int) > 20) then
      R true h_
    else
      (bif by_ == 0 then
        R true h_
      else
        C_slot_New  h_ fun (r1 : Option Addr) h_1 =>
        Loop [.one (.int .i64)] (fun _ (x30 : Int) h_2 go =>
          (bif decide (x30 < (l.n : Int)) then
            Ix l x30 1 fun e =>
            Ld .sl h_2 e fun (x : Sl) =>
            (bif decide ((x.n : Int) > 200) then
              R true h_2
            else
              C_slot_Pair_Install r1 x h_2 fun (r2 : Int) h_3 =>
              (bif r2 != 0 then
                R false h_3
              else
                go (IntKind.i64.wrap (x30 + 1)) h_3
              )
            )
          else
            Nz 2 (
            Let (IntKind.i64.wrap (divV .rem .u8 which 2) : Int) fun i =>
            C_slot_Pair_Bytes r1 i h_2 fun (r3 : Sl) h_4 =>
            Let ((r3.n : Int) : Int) fun n =>
            (bif n == 0 then
              C_slot_Pair_Spoil r1 i 0 by_ h_4 fun (r4 : Int) h_5 =>
              R (r4 == 5) h_5
            else
              Nz (IntKind.u64.wrap n) (
              C_slot_Pair_Spoil r1 i (IntKind.i64.wrap (divV .rem .u64 (IntKind.u64.wrap at_) (IntKind.u64.wrap n))) by_ h_4 fun (r5 : Int) h_6 =>
              (bif r5 != 0 then
                R false h_6
              else
                C_slot_Pair_Read r1 h_6 fun (r6 : Sl) (r7 : Int) (r8 : Int) h_7 =>
                Let (IntKind.i64.wrap ((l.n : Int) - 1) : Int) fun other =>
                Nz 2 (
                Join [.one (.int .i64)] (fun _ (other1 : Int) h_8 =>
                  (bif decide (other1 < 0) then
                    Join [.one .bool] (fun _ (x8 : Bool) h_9 =>
                      R x8 h_9
                      ) fun J1 =>
                    (bif r8 == 6 then
                      (bif (r6.n : Int) == 0 then
                        J1 (r7 == 0) h_8
                      else
                        J1 false h_8
                      )
                    else
                      J1 false h_8
                    )
                  else
                    (bif r8 == 0 then
                      ToS Try.prog 22 9 r6 h_8 fun str =>
                      Ix l other1 1 fun e1 =>
                      Ld .sl h_8 e1 fun (x1 : Sl) =>
                      ToS Try.prog 22 9 x1 h_8 fun str1 =>
                      (bif str.toList == str1.toList then
                        R (r7 == (IntKind.i64.wrap (other1 + 1))) h_8
                      else
                        R false h_8
                      )
                    else
                      R false h_8
                    )
                  )
                  ) fun J =>
                (bif (divV .rem .i64 other 2) == i then
                  Let (IntKind.i64.wrap (other - 1) : Int) fun other2 =>
                  J other2 h_7
                else
                  J other h_7
                )
                )
              )
              )
            )
            )
          )
          ) (0, ()) h_1
      )
    )
  )
theorem E_law33_SlotSpoilt (l : Sl) (which : Int) (at_ : Int) (by_ : Int) (h : Heap) (R : Bool → Heap → Prop) :
    VF Try.prog [(250, [(30, .one (.int .i64))]), (16381, [(17, .one (.int .i64))]), (131060, [(8, .one .bool)])] Try.f11 [.slice l.a l.n l.c, .int .u8 which, .int .i64 at_, .int .u8 by_] h [.one .bool] R = S_law33_SlotSpoilt l which at_ by_ h R := by kernel_rfl
theorem A_law33_SlotSpoilt {l : Sl} {which : Int} {at_ : Int} {by_ : Int} {h : Heap} {R : Bool → Heap → Prop} (hs : S_law33_SlotSpoilt l which at_ by_ h R) : C_law33_SlotSpoilt l which at_ by_ h R :=
  use_ Try.func11 (by kernel_rfl) (E_law33_SlotSpoilt l which at_ by_ h R) hs

/-- kissinggatelaw33.SlotWhole -/
def S_law33_SlotWhole (l : Sl) (h : Heap) (R : Bool → Heap → Prop) : Prop :=
  C_law33_fixed  h fun (r : Bool) h_ =>
  (bif !r then
    R false h_
  else
    C_law33_few l h_ fun (r1 : Bool) h_1 =>
    (bif !r1 then
      R true h_1
    else
      C_slot_New  h_1 fun (r2 : Option Addr) h_2 =>
      Loop [.one .str, .one (.int .i64), .one (.int .i64)] (fun _ (now : ByteArray) (number : Int) (x21 : Int) h_3 go =>
        (bif decide (x21 < (l.n : Int)) then
          Ix l x21 6 fun e =>
          Ld (.int .u8) h_3 e fun (x_Kind : Int) =>
          Ld .sl h_3 (e.add 1) fun (x_Content : Sl) =>
          Ld (.int .i64) h_3 (e.add 2) fun (x_Steps : Int) =>
          Ld (.int .i64) h_3 (e.add 3) fun (x_Keep : Int) =>
          Ld (.int .i64) h_3 (e.add 4) fun (x_At : Int) =>
          Ld (.int .u8) h_3 (e.add 5) fun (x_By : Int) =>
          Alloc h_3 (.cells #[.int .u8 0, .slice none 0 0, .int .i64 0, .int .i64 0, .int .i64 0, .int .u8 0] 98) fun a h_4 =>
          St h_4 a (.int .u8 x_Kind) fun h_5 =>
          St h_5 (a.add 1) (.slice x_Content.a x_Content.n x_Content.c) fun h_6 =>
          St h_6 (a.add 2) (.int .i64 x_Steps) fun h_7 =>
          St h_7 (a.add 3) (.int .i64 x_Keep) fun h_8 =>
          St h_8 (a.add 4) (.int .i64 x_At) fun h_9 =>
          St h_9 (a.add 5) (.int .u8 x_By) fun h_10 =>
          Join [.one .bool] (fun _ (done : Bool) h_11 =>
            Ld (.int .u8) h_11 a fun (Kind : Int) =>
            Nz 5 (
            Join [.one (.int .i64)] (fun _ (e1 : Int) h_12 =>
              C_slot_Pair_Read r2 h_12 fun (r3 : Sl) (r4 : Int) (r5 : Int) h_13 =>
              (bif e1 != 0 then
                R false h_13
              else
                (bif decide (number > 0) then
                  (bif r5 != 0 then
                    R false h_13
                  else
                    (bif number == 0 then
                      (bif r5 != 0 then
                        (bif r5 != 6 then
                          R false h_13
                        else
                          (bif done then
                            ToS Try.prog 22 9 r3 h_13 fun str =>
                            Ld .sl h_13 (a.add 1) fun (Content : Sl) =>
                            ToS Try.prog 22 9 Content h_13 fun str1 =>
                            (bif !(str.toList == str1.toList) then
                              R false h_13
                            else
                              (bif r4 != (IntKind.i64.wrap (number + 1)) then
                                R false h_13
                              else
                                ToS Try.prog 22 9 r3 h_13 fun str2 =>
                                go str2 r4 (IntKind.i64.wrap (x21 + 1)) h_13
                              )
                            )
                          else
                            (bif r4 == (IntKind.i64.wrap (number + 1)) then
                              Ld (.int .u8) h_13 a fun (Kind1 : Int) =>
                              Nz 5 (
                              (bif decide ((divV .rem .u8 Kind1 5) < 4) then
                                Ld (.int .i64) h_13 (a.add 2) fun (Steps : Int) =>
                                (bif Steps == 2 then
                                  ToS Try.prog 22 9 r3 h_13 fun str3 =>
                                  Ld .sl h_13 (a.add 1) fun (Content1 : Sl) =>
                                  ToS Try.prog 22 9 Content1 h_13 fun str4 =>
                                  Join [.one .str, .one (.int .i64)] (fun _ (now1 : ByteArray) (number1 : Int) h_14 =>
                                    ToS Try.prog 22 9 r3 h_14 fun str5 =>
                                    (bif !(str5.toList == now1.toList) then
                                      R false h_14
                                    else
                                      (bif r4 != number1 then
                                        R false h_14
                                      else
                                        go now1 number1 (IntKind.i64.wrap (x21 + 1)) h_14
                                      )
                                    )
                                    ) fun J2 =>
                                  (bif str3.toList == str4.toList then
                                    ToS Try.prog 22 9 r3 h_13 fun str6 =>
                                    J2 str6 r4 h_13
                                  else
                                    J2 now number h_13
                                  )
                                else
                                  Join [.one .str, .one (.int .i64)] (fun _ (now2 : ByteArray) (number2 : Int) h_15 =>
                                    ToS Try.prog 22 9 r3 h_15 fun str7 =>
                                    (bif !(str7.toList == now2.toList) then
                                      R false h_15
                                    else
                                      (bif r4 != number2 then
                                        R false h_15
                                      else
                                        go now2 number2 (IntKind.i64.wrap (x21 + 1)) h_15
                                      )
                                    )
                                    ) fun J3 =>
                                  J3 now number h_13
                                )
                              else
                                Join [.one .str, .one (.int .i64)] (fun _ (now3 : ByteArray) (number3 : Int) h_16 =>
                                  ToS Try.prog 22 9 r3 h_16 fun str8 =>
                                  (bif !(str8.toList == now3.toList) then
                                    R false h_16
                                  else
                                    (bif r4 != number3 then
                                      R false h_16
                                    else
                                      go now3 number3 (IntKind.i64.wrap (x21 + 1)) h_16
                                    )
                                  )
                                  ) fun J4 =>
                                J4 now number h_13
                              )
                              )
                            else
                              Join [.one .str, .one (.int .i64)] (fun _ (now4 : ByteArray) (number4 : Int) h_17 =>
                                ToS Try.prog 22 9 r3 h_17 fun str9 =>
                                (bif !(str9.toList == now4.toList) then
                                  R false h_17
                                else
                                  (bif r4 != number4 then
                                    R false h_17
                                  else
                                    go now4 number4 (IntKind.i64.wrap (x21 + 1)) h_17
                                  )
                                )
                                ) fun J5 =>
                              J5 now number h_13
                            )
                          )
                        )
                      else
                        (bif done then
                          ToS Try.prog 22 9 r3 h_13 fun str10 =>
                          Ld .sl h_13 (a.add 1) fun (Content2 : Sl) =>
                          ToS Try.prog 22 9 Content2 h_13 fun str11 =>
                          (bif !(str10.toList == str11.toList) then
                            R false h_13
                          else
                            (bif r4 != (IntKind.i64.wrap (number + 1)) then
                              R false h_13
                            else
                              ToS Try.prog 22 9 r3 h_13 fun str12 =>
                              go str12 r4 (IntKind.i64.wrap (x21 + 1)) h_13
                            )
                          )
                        else
                          (bif r4 == (IntKind.i64.wrap (number + 1)) then
                            Ld (.int .u8) h_13 a fun (Kind2 : Int) =>
                            Nz 5 (
                            (bif decide ((divV .rem .u8 Kind2 5) < 4) then
                              Ld (.int .i64) h_13 (a.add 2) fun (Steps1 : Int) =>
                              (bif Steps1 == 2 then
                                ToS Try.prog 22 9 r3 h_13 fun str13 =>
                                Ld .sl h_13 (a.add 1) fun (Content3 : Sl) =>
                                ToS Try.prog 22 9 Content3 h_13 fun str14 =>
                                Join [.one .str, .one (.int .i64)] (fun _ (now5 : ByteArray) (number5 : Int) h_18 =>
                                  ToS Try.prog 22 9 r3 h_18 fun str15 =>
                                  (bif !(str15.toList == now5.toList) then
                                    R false h_18
                                  else
                                    (bif r4 != number5 then
                                      R false h_18
                                    else
                                      go now5 number5 (IntKind.i64.wrap (x21 + 1)) h_18
                                    )
                                  )
                                  ) fun J6 =>
                                (bif str13.toList == str14.toList then
                                  ToS Try.prog 22 9 r3 h_13 fun str16 =>
                                  J6 str16 r4 h_13
                                else
                                  J6 now number h_13
                                )
                              else
                                Join [.one .str, .one (.int .i64)] (fun _ (now6 : ByteArray) (number6 : Int) h_19 =>
                                  ToS Try.prog 22 9 r3 h_19 fun str17 =>
                                  (bif !(str17.toList == now6.toList) then
                                    R false h_19
                                  else
                                    (bif r4 != number6 then
                                      R false h_19
                                    else
                                      go now6 number6 (IntKind.i64.wrap (x21 + 1)) h_19
                                    )
                                  )
                                  ) fun J7 =>
                                J7 now number h_13
                              )
                            else
                              Join [.one .str, .one (.int .i64)] (fun _ (now7 : ByteArray) (number7 : Int) h_20 =>
                                ToS Try.prog 22 9 r3 h_20 fun str18 =>
                                (bif !(str18.toList == now7.toList) then
                                  R false h_20
                                else
                                  (bif r4 != number7 then
                                    R false h_20
                                  else
                                    go now7 number7 (IntKind.i64.wrap (x21 + 1)) h_20
                                  )
                                )
                                ) fun J8 =>
                              J8 now number h_13
                            )
                            )
                          else
                            Join [.one .str, .one (.int .i64)] (fun _ (now8 : ByteArray) (number8 : Int) h_21 =>
                              ToS Try.prog 22 9 r3 h_21 fun str19 =>
                              (bif !(str19.toList == now8.toList) then
                                R false h_21
                              else
                                (bif r4 != number8 then
                                  R false h_21
                                else
                                  go now8 number8 (IntKind.i64.wrap (x21 + 1)) h_21
                                )
                              )
                              ) fun J9 =>
                            J9 now number h_13
                          )
                        )
                      )
                    else
                      (bif done then
                        ToS Try.prog 22 9 r3 h_13 fun str20 =>
                        Ld .sl h_13 (a.add 1) fun (Content4 : Sl) =>
                        ToS Try.prog 22 9 Content4 h_13 fun str21 =>
                        (bif !(str20.toList == str21.toList) then
                          R false h_13
                        else
                          (bif r4 != (IntKind.i64.wrap (number + 1)) then
                            R false h_13
                          else
                            ToS Try.prog 22 9 r3 h_13 fun str22 =>
                            go str22 r4 (IntKind.i64.wrap (x21 + 1)) h_13
                          )
                        )
                      else
                        (bif r4 == (IntKind.i64.wrap (number + 1)) then
                          Ld (.int .u8) h_13 a fun (Kind3 : Int) =>
                          Nz 5 (
                          (bif decide ((divV .rem .u8 Kind3 5) < 4) then
                            Ld (.int .i64) h_13 (a.add 2) fun (Steps2 : Int) =>
                            (bif Steps2 == 2 then
                              ToS Try.prog 22 9 r3 h_13 fun str23 =>
                              Ld .sl h_13 (a.add 1) fun (Content5 : Sl) =>
                              ToS Try.prog 22 9 Content5 h_13 fun str24 =>
                              Join [.one .str, .one (.int .i64)] (fun _ (now9 : ByteArray) (number9 : Int) h_22 =>
                                ToS Try.prog 22 9 r3 h_22 fun str25 =>
                                (bif !(str25.toList == now9.toList) then
                                  R false h_22
                                else
                                  (bif r4 != number9 then
                                    R false h_22
                                  else
                                    go now9 number9 (IntKind.i64.wrap (x21 + 1)) h_22
                                  )
                                )
                                ) fun J10 =>
                              (bif str23.toList == str24.toList then
                                ToS Try.prog 22 9 r3 h_13 fun str26 =>
                                J10 str26 r4 h_13
                              else
                                J10 now number h_13
                              )
                            else
                              Join [.one .str, .one (.int .i64)] (fun _ (now10 : ByteArray) (number10 : Int) h_23 =>
                                ToS Try.prog 22 9 r3 h_23 fun str27 =>
                                (bif !(str27.toList == now10.toList) then
                                  R false h_23
                                else
                                  (bif r4 != number10 then
                                    R false h_23
                                  else
                                    go now10 number10 (IntKind.i64.wrap (x21 + 1)) h_23
                                  )
                                )
                                ) fun J11 =>
                              J11 now number h_13
                            )
                          else
                            Join [.one .str, .one (.int .i64)] (fun _ (now11 : ByteArray) (number11 : Int) h_24 =>
                              ToS Try.prog 22 9 r3 h_24 fun str28 =>
                              (bif !(str28.toList == now11.toList) then
                                R false h_24
                              else
                                (bif r4 != number11 then
                                  R false h_24
                                else
                                  go now11 number11 (IntKind.i64.wrap (x21 + 1)) h_24
                                )
                              )
                              ) fun J12 =>
                            J12 now number h_13
                          )
                          )
                        else
                          Join [.one .str, .one (.int .i64)] (fun _ (now12 : ByteArray) (number12 : Int) h_25 =>
                            ToS Try.prog 22 9 r3 h_25 fun str29 =>
                            (bif !(str29.toList == now12.toList) then
                              R false h_25
                            else
                              (bif r4 != number12 then
                                R false h_25
                              else
                                go now12 number12 (IntKind.i64.wrap (x21 + 1)) h_25
                              )
                            )
                            ) fun J13 =>
                          J13 now number h_13
                        )
                      )
                    )
                  )
                else
                  (bif number == 0 then
                    (bif r5 != 0 then
                      (bif r5 != 6 then
                        R false h_13
                      else
                        (bif done then
                          ToS Try.prog 22 9 r3 h_13 fun str30 =>
                          Ld .sl h_13 (a.add 1) fun (Content6 : Sl) =>
                          ToS Try.prog 22 9 Content6 h_13 fun str31 =>
                          (bif !(str30.toList == str31.toList) then
                            R false h_13
                          else
                            (bif r4 != (IntKind.i64.wrap (number + 1)) then
                              R false h_13
                            else
                              ToS Try.prog 22 9 r3 h_13 fun str32 =>
                              go str32 r4 (IntKind.i64.wrap (x21 + 1)) h_13
                            )
                          )
                        else
                          (bif r4 == (IntKind.i64.wrap (number + 1)) then
                            Ld (.int .u8) h_13 a fun (Kind4 : Int) =>
                            Nz 5 (
                            (bif decide ((divV .rem .u8 Kind4 5) < 4) then
                              Ld (.int .i64) h_13 (a.add 2) fun (Steps3 : Int) =>
                              (bif Steps3 == 2 then
                                ToS Try.prog 22 9 r3 h_13 fun str33 =>
                                Ld .sl h_13 (a.add 1) fun (Content7 : Sl) =>
                                ToS Try.prog 22 9 Content7 h_13 fun str34 =>
                                Join [.one .str, .one (.int .i64)] (fun _ (now13 : ByteArray) (number13 : Int) h_26 =>
                                  ToS Try.prog 22 9 r3 h_26 fun str35 =>
                                  (bif !(str35.toList == now13.toList) then
                                    R false h_26
                                  else
                                    (bif r4 != number13 then
                                      R false h_26
                                    else
                                      go now13 number13 (IntKind.i64.wrap (x21 + 1)) h_26
                                    )
                                  )
                                  ) fun J14 =>
                                (bif str33.toList == str34.toList then
                                  ToS Try.prog 22 9 r3 h_13 fun str36 =>
                                  J14 str36 r4 h_13
                                else
                                  J14 now number h_13
                                )
                              else
                                Join [.one .str, .one (.int .i64)] (fun _ (now14 : ByteArray) (number14 : Int) h_27 =>
                                  ToS Try.prog 22 9 r3 h_27 fun str37 =>
                                  (bif !(str37.toList == now14.toList) then
                                    R false h_27
                                  else
                                    (bif r4 != number14 then
                                      R false h_27
                                    else
                                      go now14 number14 (IntKind.i64.wrap (x21 + 1)) h_27
                                    )
                                  )
                                  ) fun J15 =>
                                J15 now number h_13
                              )
                            else
                              Join [.one .str, .one (.int .i64)] (fun _ (now15 : ByteArray) (number15 : Int) h_28 =>
                                ToS Try.prog 22 9 r3 h_28 fun str38 =>
                                (bif !(str38.toList == now15.toList) then
                                  R false h_28
                                else
                                  (bif r4 != number15 then
                                    R false h_28
                                  else
                                    go now15 number15 (IntKind.i64.wrap (x21 + 1)) h_28
                                  )
                                )
                                ) fun J16 =>
                              J16 now number h_13
                            )
                            )
                          else
                            Join [.one .str, .one (.int .i64)] (fun _ (now16 : ByteArray) (number16 : Int) h_29 =>
                              ToS Try.prog 22 9 r3 h_29 fun str39 =>
                              (bif !(str39.toList == now16.toList) then
                                R false h_29
                              else
                                (bif r4 != number16 then
                                  R false h_29
                                else
                                  go now16 number16 (IntKind.i64.wrap (x21 + 1)) h_29
                                )
                              )
                              ) fun J17 =>
                            J17 now number h_13
                          )
                        )
                      )
                    else
                      (bif done then
                        ToS Try.prog 22 9 r3 h_13 fun str40 =>
                        Ld .sl h_13 (a.add 1) fun (Content8 : Sl) =>
                        ToS Try.prog 22 9 Content8 h_13 fun str41 =>
                        (bif !(str40.toList == str41.toList) then
                          R false h_13
                        else
                          (bif r4 != (IntKind.i64.wrap (number + 1)) then
                            R false h_13
                          else
                            ToS Try.prog 22 9 r3 h_13 fun str42 =>
                            go str42 r4 (IntKind.i64.wrap (x21 + 1)) h_13
                          )
                        )
                      else
                        (bif r4 == (IntKind.i64.wrap (number + 1)) then
                          Ld (.int .u8) h_13 a fun (Kind5 : Int) =>
                          Nz 5 (
                          (bif decide ((divV .rem .u8 Kind5 5) < 4) then
                            Ld (.int .i64) h_13 (a.add 2) fun (Steps4 : Int) =>
                            (bif Steps4 == 2 then
                              ToS Try.prog 22 9 r3 h_13 fun str43 =>
                              Ld .sl h_13 (a.add 1) fun (Content9 : Sl) =>
                              ToS Try.prog 22 9 Content9 h_13 fun str44 =>
                              Join [.one .str, .one (.int .i64)] (fun _ (now17 : ByteArray) (number17 : Int) h_30 =>
                                ToS Try.prog 22 9 r3 h_30 fun str45 =>
                                (bif !(str45.toList == now17.toList) then
                                  R false h_30
                                else
                                  (bif r4 != number17 then
                                    R false h_30
                                  else
                                    go now17 number17 (IntKind.i64.wrap (x21 + 1)) h_30
                                  )
                                )
                                ) fun J18 =>
                              (bif str43.toList == str44.toList then
                                ToS Try.prog 22 9 r3 h_13 fun str46 =>
                                J18 str46 r4 h_13
                              else
                                J18 now number h_13
                              )
                            else
                              Join [.one .str, .one (.int .i64)] (fun _ (now18 : ByteArray) (number18 : Int) h_31 =>
                                ToS Try.prog 22 9 r3 h_31 fun str47 =>
                                (bif !(str47.toList == now18.toList) then
                                  R false h_31
                                else
                                  (bif r4 != number18 then
                                    R false h_31
                                  else
                                    go now18 number18 (IntKind.i64.wrap (x21 + 1)) h_31
                                  )
                                )
                                ) fun J19 =>
                              J19 now number h_13
                            )
                          else
                            Join [.one .str, .one (.int .i64)] (fun _ (now19 : ByteArray) (number19 : Int) h_32 =>
                              ToS Try.prog 22 9 r3 h_32 fun str48 =>
                              (bif !(str48.toList == now19.toList) then
                                R false h_32
                              else
                                (bif r4 != number19 then
                                  R false h_32
                                else
                                  go now19 number19 (IntKind.i64.wrap (x21 + 1)) h_32
                                )
                              )
                              ) fun J20 =>
                            J20 now number h_13
                          )
                          )
                        else
                          Join [.one .str, .one (.int .i64)] (fun _ (now20 : ByteArray) (number20 : Int) h_33 =>
                            ToS Try.prog 22 9 r3 h_33 fun str49 =>
                            (bif !(str49.toList == now20.toList) then
                              R false h_33
                            else
                              (bif r4 != number20 then
                                R false h_33
                              else
                                go now20 number20 (IntKind.i64.wrap (x21 + 1)) h_33
                              )
                            )
                            ) fun J21 =>
                          J21 now number h_13
                        )
                      )
                    )
                  else
                    (bif done then
                      ToS Try.prog 22 9 r3 h_13 fun str50 =>
                      Ld .sl h_13 (a.add 1) fun (Content10 : Sl) =>
                      ToS Try.prog 22 9 Content10 h_13 fun str51 =>
                      (bif !(str50.toList == str51.toList) then
                        R false h_13
                      else
                        (bif r4 != (IntKind.i64.wrap (number + 1)) then
                          R false h_13
                        else
                          ToS Try.prog 22 9 r3 h_13 fun str52 =>
                          go str52 r4 (IntKind.i64.wrap (x21 + 1)) h_13
                        )
                      )
                    else
                      (bif r4 == (IntKind.i64.wrap (number + 1)) then
                        Ld (.int .u8) h_13 a fun (Kind6 : Int) =>
                        Nz 5 (
                        (bif decide ((divV .rem .u8 Kind6 5) < 4) then
                          Ld (.int .i64) h_13 (a.add 2) fun (Steps5 : Int) =>
                          (bif Steps5 == 2 then
                            ToS Try.prog 22 9 r3 h_13 fun str53 =>
                            Ld .sl h_13 (a.add 1) fun (Content11 : Sl) =>
                            ToS Try.prog 22 9 Content11 h_13 fun str54 =>
                            Join [.one .str, .one (.int .i64)] (fun _ (now21 : ByteArray) (number21 : Int) h_34 =>
                              ToS Try.prog 22 9 r3 h_34 fun str55 =>
                              (bif !(str55.toList == now21.toList) then
                                R false h_34
                              else
                                (bif r4 != number21 then
                                  R false h_34
                                else
                                  go now21 number21 (IntKind.i64.wrap (x21 + 1)) h_34
                                )
                              )
                              ) fun J22 =>
                            (bif str53.toList == str54.toList then
                              ToS Try.prog 22 9 r3 h_13 fun str56 =>
                              J22 str56 r4 h_13
                            else
                              J22 now number h_13
                            )
                          else
                            Join [.one .str, .one (.int .i64)] (fun _ (now22 : ByteArray) (number22 : Int) h_35 =>
                              ToS Try.prog 22 9 r3 h_35 fun str57 =>
                              (bif !(str57.toList == now22.toList) then
                                R false h_35
                              else
                                (bif r4 != number22 then
                                  R false h_35
                                else
                                  go now22 number22 (IntKind.i64.wrap (x21 + 1)) h_35
                                )
                              )
                              ) fun J23 =>
                            J23 now number h_13
                          )
                        else
                          Join [.one .str, .one (.int .i64)] (fun _ (now23 : ByteArray) (number23 : Int) h_36 =>
                            ToS Try.prog 22 9 r3 h_36 fun str58 =>
                            (bif !(str58.toList == now23.toList) then
                              R false h_36
                            else
                              (bif r4 != number23 then
                                R false h_36
                              else
                                go now23 number23 (IntKind.i64.wrap (x21 + 1)) h_36
                              )
                            )
                            ) fun J24 =>
                          J24 now number h_13
                        )
                        )
                      else
                        Join [.one .str, .one (.int .i64)] (fun _ (now24 : ByteArray) (number24 : Int) h_37 =>
                          ToS Try.prog 22 9 r3 h_37 fun str59 =>
                          (bif !(str59.toList == now24.toList) then
                            R false h_37
                          else
                            (bif r4 != number24 then
                              R false h_37
                            else
                              go now24 number24 (IntKind.i64.wrap (x21 + 1)) h_37
                            )
                          )
                          ) fun J25 =>
                        J25 now number h_13
                      )
                    )
                  )
                )
              )
              ) fun J1 =>
            Join [.one .bool] (fun _ (x43 : Bool) h_38 =>
              (bif x43 then
                Ld .sl h_38 (a.add 1) fun (Content12 : Sl) =>
                C_slot_Pair_Install r2 Content12 h_38 fun (r6 : Int) h_39 =>
                J1 r6 h_39
              else
                Join [.one .bool] (fun _ (x50 : Bool) h_40 =>
                  (bif x50 then
                    Ld .sl h_40 (a.add 1) fun (Content13 : Sl) =>
                    Ld (.int .i64) h_40 (a.add 2) fun (Steps6 : Int) =>
                    Ld (.int .i64) h_40 (a.add 3) fun (Keep : Int) =>
                    Ld (.int .i64) h_40 (a.add 4) fun (At_ : Int) =>
                    Ld (.int .u8) h_40 (a.add 5) fun (By : Int) =>
                    C_slot_Pair_Torn r2 Content13 Steps6 Keep At_ By h_40 fun (r7 : Int) h_41 =>
                    J1 r7 h_41
                  else
                    (bif (divV .rem .u8 Kind 5) == 4 then
                      Ld (.int .i64) h_40 (a.add 3) fun (Keep1 : Int) =>
                      Ld (.int .i64) h_40 (a.add 4) fun (At_1 : Int) =>
                      Ld (.int .u8) h_40 (a.add 5) fun (By1 : Int) =>
                      C_slot_Pair_Crash r2 Keep1 At_1 By1 h_40 fun (r8 : Int) h_42 =>
                      J1 r8 h_42
                    else
                      J1 0 h_40
                    )
                  )
                  ) fun J27 =>
                (bif (divV .rem .u8 Kind 5) == 2 then
                  J27 ((divV .rem .u8 Kind 5) == 2) h_38
                else
                  J27 ((divV .rem .u8 Kind 5) == 3) h_38
                )
              )
              ) fun J26 =>
            (bif (divV .rem .u8 Kind 5) == 0 then
              J26 ((divV .rem .u8 Kind 5) == 0) h_11
            else
              J26 ((divV .rem .u8 Kind 5) == 1) h_11
            )
            )
            ) fun J =>
          Ld (.int .u8) h_10 a fun (Kind7 : Int) =>
          Nz 5 (
          (bif decide ((divV .rem .u8 Kind7 5) < 2) then
            J true h_10
          else
            Ld (.int .u8) h_10 a fun (Kind8 : Int) =>
            Nz 5 (
            (bif decide ((divV .rem .u8 Kind8 5) < 4) then
              Ld (.int .i64) h_10 (a.add 2) fun (Steps7 : Int) =>
              Let (decide (Steps7 > 2) : Bool) fun done1 =>
              J done1 h_10
            else
              J false h_10
            )
            )
          )
          )
        else
          R true h_3
        )
        ) ((⟨#[]⟩ : ByteArray), 0, 0, ()) h_2
    )
  )
theorem E_law33_SlotWhole (l : Sl) (h : Heap) (R : Bool → Heap → Prop) :
    VF Try.prog [(506, [(4, .one .str), (5, .one (.int .i64)), (21, .one (.int .i64))]), (64818, [(8, .one .bool)]), (518557, [(9, .one (.int .i64))]), (8296957, [(4, .one .str), (5, .one (.int .i64))]), (8296957, [(4, .one .str), (5, .one (.int .i64))]), (8296957, [(4, .one .str), (5, .one (.int .i64))]), (8296957, [(4, .one .str), (5, .one (.int .i64))]), (8296957, [(4, .one .str), (5, .one (.int .i64))]), (8296957, [(4, .one .str), (5, .one (.int .i64))]), (8296957, [(4, .one .str), (5, .one (.int .i64))]), (8296957, [(4, .one .str), (5, .one (.int .i64))]), (8296957, [(4, .one .str), (5, .one (.int .i64))]), (8296957, [(4, .one .str), (5, .one (.int .i64))]), (8296957, [(4, .one .str), (5, .one (.int .i64))]), (8296957, [(4, .one .str), (5, .one (.int .i64))]), (8296957, [(4, .one .str), (5, .one (.int .i64))]), (8296957, [(4, .one .str), (5, .one (.int .i64))]), (8296957, [(4, .one .str), (5, .one (.int .i64))]), (8296957, [(4, .one .str), (5, .one (.int .i64))]), (8296957, [(4, .one .str), (5, .one (.int .i64))]), (8296957, [(4, .one .str), (5, .one (.int .i64))]), (8296957, [(4, .one .str), (5, .one (.int .i64))]), (8296957, [(4, .one .str), (5, .one (.int .i64))]), (8296957, [(4, .one .str), (5, .one (.int .i64))]), (8296957, [(4, .one .str), (5, .one (.int .i64))]), (8296957, [(4, .one .str), (5, .one (.int .i64))]), (8296957, [(4, .one .str), (5, .one (.int .i64))]), (4148457, [(43, .one .bool)]), (16593837, [(50, .one .bool)])] Try.f12 [.slice l.a l.n l.c] h [.one .bool] R = S_law33_SlotWhole l h R := by kernel_rfl
theorem A_law33_SlotWhole {l : Sl} {h : Heap} {R : Bool → Heap → Prop} (hs : S_law33_SlotWhole l h R) : C_law33_SlotWhole l h R :=
  use_ Try.func12 (by kernel_rfl) (E_law33_SlotWhole l h R) hs

/-- kissinggatelaw33.fixed -/
def S_law33_fixed  (h : Heap) (R : Bool → Heap → Prop) : Prop :=
  C_slot_New  h fun (r : Option Addr) h_ =>
  C_slot_Pair_Read r h_ fun (r1 : Sl) (r2 : Int) (r3 : Int) h_1 =>
  Alloc h_1 (.cells #[.int .u8 97] 5) fun b h_2 =>
  Frz Try.prog 22 22 ⟨some b, 1, 1⟩ h_2 fun bs h_3 =>
  C_slot_Pair_Install r bs h_3 fun (r4 : Int) h_4 =>
  Alloc h_4 (.cells #[.int .u8 98] 5) fun b1 h_5 =>
  Frz Try.prog 22 22 ⟨some b1, 1, 1⟩ h_5 fun bs1 h_6 =>
  C_slot_Pair_Torn r bs1 2 0 (-1) 0 h_6 fun (r5 : Int) h_7 =>
  C_slot_Pair_Read r h_7 fun (r6 : Sl) (r7 : Int) (r8 : Int) h_8 =>
  Alloc h_8 (.cells #[.int .u8 99] 5) fun b2 h_9 =>
  Frz Try.prog 22 22 ⟨some b2, 1, 1⟩ h_9 fun bs2 h_10 =>
  C_slot_Pair_Install r bs2 h_10 fun (r9 : Int) h_11 =>
  C_slot_Pair_Read r h_11 fun (r10 : Sl) (r11 : Int) (r12 : Int) h_12 =>
  Mk Try.prog 22 4089 4089 h_12 fun s h_13 =>
  C_slot_Pair_Install r s h_13 fun (r13 : Int) h_14 =>
  C_slot_Pair_Read none h_14 fun (r14 : Sl) (r15 : Int) (r16 : Int) h_15 =>
  (bif r3 == 6 then
    (bif r4 == 0 then
      (bif r5 == 0 then
        ToS Try.prog 22 9 r6 h_15 fun str =>
        (bif str.toList == (⟨#[97]⟩ : ByteArray).toList then
          (bif r7 == 1 then
            (bif r8 == 0 then
              (bif r9 == 0 then
                ToS Try.prog 22 9 r10 h_15 fun str1 =>
                (bif str1.toList == (⟨#[99]⟩ : ByteArray).toList then
                  (bif r11 == 2 then
                    (bif r13 == 4 then
                      (bif r16 == 1 then
                        C_slot_Pair_Spoil r 2 0 1 h_15 fun (r17 : Int) h_16 =>
                        (bif r17 == 6 then
                          C_slot_Pair_Bytes none 0 h_16 fun (r18 : Sl) h_17 =>
                          (bif (r18.n : Int) == 0 then
                            C_slot_Pair_Bytes r 1 h_17 fun (r19 : Sl) h_18 =>
                            R ((r19.n : Int) == 17) h_18
                          else
                            R false h_17
                          )
                        else
                          R false h_16
                        )
                      else
                        R false h_15
                      )
                    else
                      R false h_15
                    )
                  else
                    R false h_15
                  )
                else
                  R false h_15
                )
              else
                R false h_15
              )
            else
              R false h_15
            )
          else
            R false h_15
          )
        else
          R false h_15
        )
      else
        R false h_15
      )
    else
      R false h_15
    )
  else
    R false h_15
  )
theorem E_law33_fixed  (h : Heap) (R : Bool → Heap → Prop) :
    VF Try.prog [] Try.f49 [] h [.one .bool] R = S_law33_fixed  h R := by kernel_rfl
theorem A_law33_fixed  {h : Heap} {R : Bool → Heap → Prop} (hs : S_law33_fixed  h R) : C_law33_fixed  h R :=
  use_ Try.func49 (by kernel_rfl) (E_law33_fixed  h R) hs

/-- kissinggatelaw33.few -/
def S_law33_few (l : Sl) (h : Heap) (R : Bool → Heap → Prop) : Prop :=
  Loop [.one (.int .i64)] (fun _ (x7 : Int) h_ go =>
    (bif decide (x7 < (l.n : Int)) then
      Ix l x7 6 fun e =>
      Ld (.int .u8) h_ e fun (x_Kind : Int) =>
      Ld .sl h_ (e.add 1) fun (x_Content : Sl) =>
      Ld (.int .i64) h_ (e.add 2) fun (x_Steps : Int) =>
      Ld (.int .i64) h_ (e.add 3) fun (x_Keep : Int) =>
      Ld (.int .i64) h_ (e.add 4) fun (x_At : Int) =>
      Ld (.int .u8) h_ (e.add 5) fun (x_By : Int) =>
      Alloc h_ (.cells #[.int .u8 0, .slice none 0 0, .int .i64 0, .int .i64 0, .int .i64 0, .int .u8 0] 98) fun a h_1 =>
      St h_1 a (.int .u8 x_Kind) fun h_2 =>
      St h_2 (a.add 1) (.slice x_Content.a x_Content.n x_Content.c) fun h_3 =>
      St h_3 (a.add 2) (.int .i64 x_Steps) fun h_4 =>
      St h_4 (a.add 3) (.int .i64 x_Keep) fun h_5 =>
      St h_5 (a.add 4) (.int .i64 x_At) fun h_6 =>
      St h_6 (a.add 5) (.int .u8 x_By) fun h_7 =>
      Ld .sl h_7 (a.add 1) fun (Content : Sl) =>
      (bif decide ((Content.n : Int) > 200) then
        R false h_7
      else
        go (IntKind.i64.wrap (x7 + 1)) h_7
      )
    else
      R (decide ((l.n : Int) ≤ 40)) h_
    )
    ) (0, ()) h
theorem E_law33_few (l : Sl) (h : Heap) (R : Bool → Heap → Prop) :
    VF Try.prog [(26, [(7, .one (.int .i64))])] Try.f50 [.slice l.a l.n l.c] h [.one .bool] R = S_law33_few l h R := by kernel_rfl
theorem A_law33_few {l : Sl} {h : Heap} {R : Bool → Heap → Prop} (hs : S_law33_few l h R) : C_law33_few l h R :=
  use_ Try.func50 (by kernel_rfl) (E_law33_few l h R) hs

end Go.Proofs.Ytnognoiaakiepaa
