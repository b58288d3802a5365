/- Printed by a program: what each function asks of the heap, that this is the reading of its code, and what follows for a call. -/
import Derived.Test.YtnognoiaakiepaaSC
import Derived.Test.YtnognoiaakiepaaProg
set_option maxRecDepth 1000000
namespace Go.Proofs.Ytnognoiaakiepaa
open Go

/-- kissinggatelaw18.WireCommands -/
def S_law18_WireCommands (c : KL [.int .i64, .int .i64, .int .i64, .int .i64, .int .i64, .str, .str, .int .i64, .bool]) (d : KL [.int .i64, .int .i64, .int .i64, .int .i64, .int .i64, .str, .str, .int .i64, .bool]) (r : KL [.int .i64, .int .i64, .str, .bool]) (h : Heap) (R : Bool → Heap → Prop) : Prop :=
  Alloc h (.cells #[.int .i64 c.1, .int .i64 c.2.1, .int .i64 c.2.2.1, .int .i64 c.2.2.2.1, .int .i64 c.2.2.2.2.1, .string c.2.2.2.2.2.1, .string c.2.2.2.2.2.2.1, .int .i64 c.2.2.2.2.2.2.2.1, .bool c.2.2.2.2.2.2.2.2.1] 56) fun c1 h_ =>
  Alloc h_ (.cells #[.int .i64 d.1, .int .i64 d.2.1, .int .i64 d.2.2.1, .int .i64 d.2.2.2.1, .int .i64 d.2.2.2.2.1, .string d.2.2.2.2.2.1, .string d.2.2.2.2.2.2.1, .int .i64 d.2.2.2.2.2.2.2.1, .bool d.2.2.2.2.2.2.2.2.1] 56) fun d1 h_1 =>
  Alloc h_1 (.cells #[.int .i64 r.1, .int .i64 r.2.1, .string r.2.2.1, .bool r.2.2.2.1] 58) fun r1 h_2 =>
  C_law18_fixed  h_2 fun (r2 : Bool) h_3 =>
  (bif !r2 then
    R false h_3
  else
    Ld .str h_3 (c1.add 5) fun (Key : ByteArray) =>
    Ld .str h_3 (c1.add 6) fun (Value : ByteArray) =>
    (bif decide ((IntKind.i64.wrap ((Key.size : Int) + (Value.size : Int))) > 200) then
      R true h_3
    else
      Ld .str h_3 (d1.add 5) fun (Key1 : ByteArray) =>
      Ld .str h_3 (d1.add 6) fun (Value1 : ByteArray) =>
      (bif decide ((IntKind.i64.wrap ((Key1.size : Int) + (Value1.size : Int))) > 200) then
        R true h_3
      else
        Ld .str h_3 (r1.add 2) fun (Value2 : ByteArray) =>
        (bif decide ((Value2.size : Int) > 200) then
          R true h_3
        else
          Ld (.int .i64) h_3 c1 fun (x_Kind : Int) =>
          Ld (.int .i64) h_3 (c1.add 1) fun (x_Tx : Int) =>
          Ld (.int .i64) h_3 (c1.add 2) fun (x_Attempt : Int) =>
          Ld (.int .i64) h_3 (c1.add 3) fun (x_Stamp : Int) =>
          Ld (.int .i64) h_3 (c1.add 4) fun (x_Op : Int) =>
          Ld .str h_3 (c1.add 5) fun (x_Key : ByteArray) =>
          Ld .str h_3 (c1.add 6) fun (x_Value : ByteArray) =>
          Ld (.int .i64) h_3 (c1.add 7) fun (x_Mode : Int) =>
          Ld .bool h_3 (c1.add 8) fun (x_Yes : Bool) =>
          C_wire_Command (x_Kind, x_Tx, x_Attempt, x_Stamp, x_Op, x_Key, x_Value, x_Mode, x_Yes, ()) h_3 fun (r3 : Sl) (r4 : Int) h_4 =>
          Ld (.int .i64) h_4 c1 fun (x_Kind1 : Int) =>
          Ld (.int .i64) h_4 (c1.add 1) fun (x_Tx1 : Int) =>
          Ld (.int .i64) h_4 (c1.add 2) fun (x_Attempt1 : Int) =>
          Ld (.int .i64) h_4 (c1.add 3) fun (x_Stamp1 : Int) =>
          Ld (.int .i64) h_4 (c1.add 4) fun (x_Op1 : Int) =>
          Ld .str h_4 (c1.add 5) fun (x_Key1 : ByteArray) =>
          Ld .str h_4 (c1.add 6) fun (x_Value1 : ByteArray) =>
          Ld (.int .i64) h_4 (c1.add 7) fun (x_Mode1 : Int) =>
          Ld .bool h_4 (c1.add 8) fun (x_Yes1 : Bool) =>
          C_ref18_Command (x_Kind1, x_Tx1, x_Attempt1, x_Stamp1, x_Op1, x_Key1, x_Value1, x_Mode1, x_Yes1, ()) h_4 fun (r5 : ByteArray) (r6 : Bool) h_5 =>
          Join [] (fun _ h_6 =>
            Ld (.int .i64) h_6 d1 fun (x_Kind2 : Int) =>
            Ld (.int .i64) h_6 (d1.add 1) fun (x_Tx2 : Int) =>
            Ld (.int .i64) h_6 (d1.add 2) fun (x_Attempt2 : Int) =>
            Ld (.int .i64) h_6 (d1.add 3) fun (x_Stamp2 : Int) =>
            Ld (.int .i64) h_6 (d1.add 4) fun (x_Op2 : Int) =>
            Ld .str h_6 (d1.add 5) fun (x_Key2 : ByteArray) =>
            Ld .str h_6 (d1.add 6) fun (x_Value2 : ByteArray) =>
            Ld (.int .i64) h_6 (d1.add 7) fun (x_Mode2 : Int) =>
            Ld .bool h_6 (d1.add 8) fun (x_Yes2 : Bool) =>
            C_wire_Command (x_Kind2, x_Tx2, x_Attempt2, x_Stamp2, x_Op2, x_Key2, x_Value2, x_Mode2, x_Yes2, ()) h_6 fun (r7 : Sl) (r8 : Int) h_7 =>
            (bif r6 then
              (bif r8 == 0 then
                ToS Try.prog 22 9 r7 h_7 fun str =>
                ToS Try.prog 22 9 r3 h_7 fun str1 =>
                Ld (.int .i64) h_7 c1 fun (x_Kind3 : Int) =>
                Ld (.int .i64) h_7 (c1.add 1) fun (x_Tx3 : Int) =>
                Ld (.int .i64) h_7 (c1.add 2) fun (x_Attempt3 : Int) =>
                Ld (.int .i64) h_7 (c1.add 3) fun (x_Stamp3 : Int) =>
                Ld (.int .i64) h_7 (c1.add 4) fun (x_Op3 : Int) =>
                Ld .str h_7 (c1.add 5) fun (x_Key3 : ByteArray) =>
                Ld .str h_7 (c1.add 6) fun (x_Value3 : ByteArray) =>
                Ld (.int .i64) h_7 (c1.add 7) fun (x_Mode3 : Int) =>
                Ld .bool h_7 (c1.add 8) fun (x_Yes3 : Bool) =>
                Ld (.int .i64) h_7 d1 fun (x_Kind4 : Int) =>
                Ld (.int .i64) h_7 (d1.add 1) fun (x_Tx4 : Int) =>
                Ld (.int .i64) h_7 (d1.add 2) fun (x_Attempt4 : Int) =>
                Ld (.int .i64) h_7 (d1.add 3) fun (x_Stamp4 : Int) =>
                Ld (.int .i64) h_7 (d1.add 4) fun (x_Op4 : Int) =>
                Ld .str h_7 (d1.add 5) fun (x_Key4 : ByteArray) =>
                Ld .str h_7 (d1.add 6) fun (x_Value4 : ByteArray) =>
                Ld (.int .i64) h_7 (d1.add 7) fun (x_Mode4 : Int) =>
                Ld .bool h_7 (d1.add 8) fun (x_Yes4 : Bool) =>
                OpV Try.prog (do eqGuard .eql 56 (.tmp 104) (.tmp 105) (.agg #[.int .i64 x_Kind3, .int .i64 x_Tx3, .int .i64 x_Attempt3, .int .i64 x_Stamp3, .int .i64 x_Op3, .string x_Key3, .string x_Value3, .int .i64 x_Mode3, .bool x_Yes3]) (.agg #[.int .i64 x_Kind4, .int .i64 x_Tx4, .int .i64 x_Attempt4, .int .i64 x_Stamp4, .int .i64 x_Op4, .string x_Key4, .string x_Value4, .int .i64 x_Mode4, .bool x_Yes4]); binOp .eql 56 (.agg #[.int .i64 x_Kind3, .int .i64 x_Tx3, .int .i64 x_Attempt3, .int .i64 x_Stamp3, .int .i64 x_Op3, .string x_Key3, .string x_Value3, .int .i64 x_Mode3, .bool x_Yes3]) (.agg #[.int .i64 x_Kind4, .int .i64 x_Tx4, .int .i64 x_Attempt4, .int .i64 x_Stamp4, .int .i64 x_Op4, .string x_Key4, .string x_Value4, .int .i64 x_Mode4, .bool x_Yes4])) h_7 [.one .bool] fun (q : Bool) =>
                (bif !((str.toList == str1.toList) == q) then
                  R false h_7
                else
                  Ld (.int .i64) h_7 r1 fun (x_Code : Int) =>
                  Ld (.int .i64) h_7 (r1.add 1) fun (x_State : Int) =>
                  Ld .str h_7 (r1.add 2) fun (x_Value5 : ByteArray) =>
                  Ld .bool h_7 (r1.add 3) fun (x_Has : Bool) =>
                  C_wire_Reply (x_Code, x_State, x_Value5, x_Has, ()) h_7 fun (r9 : Sl) (r10 : Int) h_8 =>
                  Ld (.int .i64) h_8 r1 fun (x_Code1 : Int) =>
                  Ld (.int .i64) h_8 (r1.add 1) fun (x_State1 : Int) =>
                  Ld .str h_8 (r1.add 2) fun (x_Value6 : ByteArray) =>
                  Ld .bool h_8 (r1.add 3) fun (x_Has1 : Bool) =>
                  C_ref18_Reply (x_Code1, x_State1, x_Value6, x_Has1, ()) h_8 fun (r11 : ByteArray) (r12 : Bool) h_9 =>
                  (bif !r12 then
                    Join [.one .bool] (fun _ (x6 : Bool) h_10 =>
                      R x6 h_10
                      ) fun J1 =>
                    (bif r10 == 4 then
                      J1 ((r9.n : Int) == 0) h_9
                    else
                      J1 false h_9
                    )
                  else
                    C_wire_ReadReply r9 h_9 fun (r13 : KL [.int .i64, .int .i64, .str, .bool]) (r14 : Int) h_11 =>
                    Alloc h_11 (.cells #[.int .i64 0, .int .i64 0, .string (⟨#[]⟩ : ByteArray), .bool false] 58) fun y h_12 =>
                    St h_12 y (.int .i64 r13.1) fun h_13 =>
                    St h_13 (y.add 1) (.int .i64 r13.2.1) fun h_14 =>
                    St h_14 (y.add 2) (.string r13.2.2.1) fun h_15 =>
                    St h_15 (y.add 3) (.bool r13.2.2.2.1) fun h_16 =>
                    (bif r10 == 0 then
                      ToS Try.prog 22 9 r9 h_16 fun str2 =>
                      (bif str2.toList == r11.toList then
                        (bif r14 == 0 then
                          Ld (.int .i64) h_16 y fun (x_Code2 : Int) =>
                          Ld (.int .i64) h_16 (y.add 1) fun (x_State2 : Int) =>
                          Ld .str h_16 (y.add 2) fun (x_Value7 : ByteArray) =>
                          Ld .bool h_16 (y.add 3) fun (x_Has2 : Bool) =>
                          Ld (.int .i64) h_16 r1 fun (x_Code3 : Int) =>
                          Ld (.int .i64) h_16 (r1.add 1) fun (x_State3 : Int) =>
                          Ld .str h_16 (r1.add 2) fun (x_Value8 : ByteArray) =>
                          Ld .bool h_16 (r1.add 3) fun (x_Has3 : Bool) =>
                          OpV Try.prog (do eqGuard .eql 58 (.tmp 146) (.tmp 147) (.agg #[.int .i64 x_Code2, .int .i64 x_State2, .string x_Value7, .bool x_Has2]) (.agg #[.int .i64 x_Code3, .int .i64 x_State3, .string x_Value8, .bool x_Has3]); binOp .eql 58 (.agg #[.int .i64 x_Code2, .int .i64 x_State2, .string x_Value7, .bool x_Has2]) (.agg #[.int .i64 x_Code3, .int .i64 x_State3, .string x_Value8, .bool x_Has3])) h_16 [.one .bool] fun (q1 : Bool) =>
                          R q1 h_16
                        else
                          R false h_16
                        )
                      else
                        R false h_16
                      )
                    else
                      R false h_16
                    )
                  )
                )
              else
                Ld (.int .i64) h_7 r1 fun (x_Code4 : Int) =>
                Ld (.int .i64) h_7 (r1.add 1) fun (x_State4 : Int) =>
                Ld .str h_7 (r1.add 2) fun (x_Value9 : ByteArray) =>
                Ld .bool h_7 (r1.add 3) fun (x_Has4 : Bool) =>
                C_wire_Reply (x_Code4, x_State4, x_Value9, x_Has4, ()) h_7 fun (r15 : Sl) (r16 : Int) h_17 =>
                Ld (.int .i64) h_17 r1 fun (x_Code5 : Int) =>
                Ld (.int .i64) h_17 (r1.add 1) fun (x_State5 : Int) =>
                Ld .str h_17 (r1.add 2) fun (x_Value10 : ByteArray) =>
                Ld .bool h_17 (r1.add 3) fun (x_Has5 : Bool) =>
                C_ref18_Reply (x_Code5, x_State5, x_Value10, x_Has5, ()) h_17 fun (r17 : ByteArray) (r18 : Bool) h_18 =>
                (bif !r18 then
                  Join [.one .bool] (fun _ (x61 : Bool) h_19 =>
                    R x61 h_19
                    ) fun J2 =>
                  (bif r16 == 4 then
                    J2 ((r15.n : Int) == 0) h_18
                  else
                    J2 false h_18
                  )
                else
                  C_wire_ReadReply r15 h_18 fun (r19 : KL [.int .i64, .int .i64, .str, .bool]) (r20 : Int) h_20 =>
                  Alloc h_20 (.cells #[.int .i64 0, .int .i64 0, .string (⟨#[]⟩ : ByteArray), .bool false] 58) fun y1 h_21 =>
                  St h_21 y1 (.int .i64 r19.1) fun h_22 =>
                  St h_22 (y1.add 1) (.int .i64 r19.2.1) fun h_23 =>
                  St h_23 (y1.add 2) (.string r19.2.2.1) fun h_24 =>
                  St h_24 (y1.add 3) (.bool r19.2.2.2.1) fun h_25 =>
                  (bif r16 == 0 then
                    ToS Try.prog 22 9 r15 h_25 fun str3 =>
                    (bif str3.toList == r17.toList then
                      (bif r20 == 0 then
                        Ld (.int .i64) h_25 y1 fun (x_Code6 : Int) =>
                        Ld (.int .i64) h_25 (y1.add 1) fun (x_State6 : Int) =>
                        Ld .str h_25 (y1.add 2) fun (x_Value11 : ByteArray) =>
                        Ld .bool h_25 (y1.add 3) fun (x_Has6 : Bool) =>
                        Ld (.int .i64) h_25 r1 fun (x_Code7 : Int) =>
                        Ld (.int .i64) h_25 (r1.add 1) fun (x_State7 : Int) =>
                        Ld .str h_25 (r1.add 2) fun (x_Value12 : ByteArray) =>
                        Ld .bool h_25 (r1.add 3) fun (x_Has7 : Bool) =>
                        OpV Try.prog (do eqGuard .eql 58 (.tmp 146) (.tmp 147) (.agg #[.int .i64 x_Code6, .int .i64 x_State6, .string x_Value11, .bool x_Has6]) (.agg #[.int .i64 x_Code7, .int .i64 x_State7, .string x_Value12, .bool x_Has7]); binOp .eql 58 (.agg #[.int .i64 x_Code6, .int .i64 x_State6, .string x_Value11, .bool x_Has6]) (.agg #[.int .i64 x_Code7, .int .i64 x_State7, .string x_Value12, .bool x_Has7])) h_25 [.one .bool] fun (q2 : Bool) =>
                        R q2 h_25
                      else
                        R false h_25
                      )
                    else
                      R false h_25
                    )
                  else
                    R false h_25
                  )
                )
              )
            else
              Ld (.int .i64) h_7 r1 fun (x_Code8 : Int) =>
              Ld (.int .i64) h_7 (r1.add 1) fun (x_State8 : Int) =>
              Ld .str h_7 (r1.add 2) fun (x_Value13 : ByteArray) =>
              Ld .bool h_7 (r1.add 3) fun (x_Has8 : Bool) =>
              C_wire_Reply (x_Code8, x_State8, x_Value13, x_Has8, ()) h_7 fun (r21 : Sl) (r22 : Int) h_26 =>
              Ld (.int .i64) h_26 r1 fun (x_Code9 : Int) =>
              Ld (.int .i64) h_26 (r1.add 1) fun (x_State9 : Int) =>
              Ld .str h_26 (r1.add 2) fun (x_Value14 : ByteArray) =>
              Ld .bool h_26 (r1.add 3) fun (x_Has9 : Bool) =>
              C_ref18_Reply (x_Code9, x_State9, x_Value14, x_Has9, ()) h_26 fun (r23 : ByteArray) (r24 : Bool) h_27 =>
              (bif !r24 then
                Join [.one .bool] (fun _ (x62 : Bool) h_28 =>
                  R x62 h_28
                  ) fun J3 =>
                (bif r22 == 4 then
                  J3 ((r21.n : Int) == 0) h_27
                else
                  J3 false h_27
                )
              else
                C_wire_ReadReply r21 h_27 fun (r25 : KL [.int .i64, .int .i64, .str, .bool]) (r26 : Int) h_29 =>
                Alloc h_29 (.cells #[.int .i64 0, .int .i64 0, .string (⟨#[]⟩ : ByteArray), .bool false] 58) fun y2 h_30 =>
                St h_30 y2 (.int .i64 r25.1) fun h_31 =>
                St h_31 (y2.add 1) (.int .i64 r25.2.1) fun h_32 =>
                St h_32 (y2.add 2) (.string r25.2.2.1) fun h_33 =>
                St h_33 (y2.add 3) (.bool r25.2.2.2.1) fun h_34 =>
                (bif r22 == 0 then
                  ToS Try.prog 22 9 r21 h_34 fun str4 =>
                  (bif str4.toList == r23.toList then
                    (bif r26 == 0 then
                      Ld (.int .i64) h_34 y2 fun (x_Code10 : Int) =>
                      Ld (.int .i64) h_34 (y2.add 1) fun (x_State10 : Int) =>
                      Ld .str h_34 (y2.add 2) fun (x_Value15 : ByteArray) =>
                      Ld .bool h_34 (y2.add 3) fun (x_Has10 : Bool) =>
                      Ld (.int .i64) h_34 r1 fun (x_Code11 : Int) =>
                      Ld (.int .i64) h_34 (r1.add 1) fun (x_State11 : Int) =>
                      Ld .str h_34 (r1.add 2) fun (x_Value16 : ByteArray) =>
                      Ld .bool h_34 (r1.add 3) fun (x_Has11 : Bool) =>
                      OpV Try.prog (do eqGuard .eql 58 (.tmp 146) (.tmp 147) (.agg #[.int .i64 x_Code10, .int .i64 x_State10, .string x_Value15, .bool x_Has10]) (.agg #[.int .i64 x_Code11, .int .i64 x_State11, .string x_Value16, .bool x_Has11]); binOp .eql 58 (.agg #[.int .i64 x_Code10, .int .i64 x_State10, .string x_Value15, .bool x_Has10]) (.agg #[.int .i64 x_Code11, .int .i64 x_State11, .string x_Value16, .bool x_Has11])) h_34 [.one .bool] fun (q3 : Bool) =>
                      R q3 h_34
                    else
                      R false h_34
                    )
                  else
                    R false h_34
                  )
                else
                  R false h_34
                )
              )
            )
            ) fun J =>
          (bif !r6 then
            (bif r4 != 4 then
              R false h_5
            else
              (bif decide ((r3.n : Int) > 0) then
                R false h_5
              else
                J  h_5
              )
            )
          else
            C_wire_ReadCommand r3 h_5 fun (r27 : KL [.int .i64, .int .i64, .int .i64, .int .i64, .int .i64, .str, .str, .int .i64, .bool]) (r28 : Int) h_35 =>
            Alloc h_35 (.cells #[.int .i64 0, .int .i64 0, .int .i64 0, .int .i64 0, .int .i64 0, .string (⟨#[]⟩ : ByteArray), .string (⟨#[]⟩ : ByteArray), .int .i64 0, .bool false] 56) fun x h_36 =>
            St h_36 x (.int .i64 r27.1) fun h_37 =>
            St h_37 (x.add 1) (.int .i64 r27.2.1) fun h_38 =>
            St h_38 (x.add 2) (.int .i64 r27.2.2.1) fun h_39 =>
            St h_39 (x.add 3) (.int .i64 r27.2.2.2.1) fun h_40 =>
            St h_40 (x.add 4) (.int .i64 r27.2.2.2.2.1) fun h_41 =>
            St h_41 (x.add 5) (.string r27.2.2.2.2.2.1) fun h_42 =>
            St h_42 (x.add 6) (.string r27.2.2.2.2.2.2.1) fun h_43 =>
            St h_43 (x.add 7) (.int .i64 r27.2.2.2.2.2.2.2.1) fun h_44 =>
            St h_44 (x.add 8) (.bool r27.2.2.2.2.2.2.2.2.1) fun h_45 =>
            (bif r4 != 0 then
              R false h_45
            else
              ToS Try.prog 22 9 r3 h_45 fun str5 =>
              (bif !(str5.toList == r5.toList) then
                R false h_45
              else
                (bif r28 != 0 then
                  R false h_45
                else
                  Ld (.int .i64) h_45 x fun (x_Kind5 : Int) =>
                  Ld (.int .i64) h_45 (x.add 1) fun (x_Tx5 : Int) =>
                  Ld (.int .i64) h_45 (x.add 2) fun (x_Attempt5 : Int) =>
                  Ld (.int .i64) h_45 (x.add 3) fun (x_Stamp5 : Int) =>
                  Ld (.int .i64) h_45 (x.add 4) fun (x_Op5 : Int) =>
                  Ld .str h_45 (x.add 5) fun (x_Key5 : ByteArray) =>
                  Ld .str h_45 (x.add 6) fun (x_Value17 : ByteArray) =>
                  Ld (.int .i64) h_45 (x.add 7) fun (x_Mode5 : Int) =>
                  Ld .bool h_45 (x.add 8) fun (x_Yes5 : Bool) =>
                  Ld (.int .i64) h_45 c1 fun (x_Kind6 : Int) =>
                  Ld (.int .i64) h_45 (c1.add 1) fun (x_Tx6 : Int) =>
                  Ld (.int .i64) h_45 (c1.add 2) fun (x_Attempt6 : Int) =>
                  Ld (.int .i64) h_45 (c1.add 3) fun (x_Stamp6 : Int) =>
                  Ld (.int .i64) h_45 (c1.add 4) fun (x_Op6 : Int) =>
                  Ld .str h_45 (c1.add 5) fun (x_Key6 : ByteArray) =>
                  Ld .str h_45 (c1.add 6) fun (x_Value18 : ByteArray) =>
                  Ld (.int .i64) h_45 (c1.add 7) fun (x_Mode6 : Int) =>
                  Ld .bool h_45 (c1.add 8) fun (x_Yes6 : Bool) =>
                  OpV Try.prog (do eqGuard .neq 56 (.tmp 84) (.tmp 85) (.agg #[.int .i64 x_Kind5, .int .i64 x_Tx5, .int .i64 x_Attempt5, .int .i64 x_Stamp5, .int .i64 x_Op5, .string x_Key5, .string x_Value17, .int .i64 x_Mode5, .bool x_Yes5]) (.agg #[.int .i64 x_Kind6, .int .i64 x_Tx6, .int .i64 x_Attempt6, .int .i64 x_Stamp6, .int .i64 x_Op6, .string x_Key6, .string x_Value18, .int .i64 x_Mode6, .bool x_Yes6]); binOp .neq 56 (.agg #[.int .i64 x_Kind5, .int .i64 x_Tx5, .int .i64 x_Attempt5, .int .i64 x_Stamp5, .int .i64 x_Op5, .string x_Key5, .string x_Value17, .int .i64 x_Mode5, .bool x_Yes5]) (.agg #[.int .i64 x_Kind6, .int .i64 x_Tx6, .int .i64 x_Attempt6, .int .i64 x_Stamp6, .int .i64 x_Op6, .string x_Key6, .string x_Value18, .int .i64 x_Mode6, .bool x_Yes6])) h_45 [.one .bool] fun (q4 : Bool) =>
                  (bif q4 then
                    R false h_45
                  else
                    J  h_45
                  )
                )
              )
            )
          )
        )
      )
    )
  )
theorem E_law18_WireCommands (c : KL [.int .i64, .int .i64, .int .i64, .int .i64, .int .i64, .str, .str, .int .i64, .bool]) (d : KL [.int .i64, .int .i64, .int .i64, .int .i64, .int .i64, .str, .str, .int .i64, .bool]) (r : KL [.int .i64, .int .i64, .str, .bool]) (h : Heap) (R : Bool → Heap → Prop) :
    VF Try.prog [(253, []), (16372, [(6, .one .bool)]), (16372, [(6, .one .bool)]), (16372, [(6, .one .bool)])] Try.f6 [.agg ⟨KL.vals [.int .i64, .int .i64, .int .i64, .int .i64, .int .i64, .str, .str, .int .i64, .bool] c⟩, .agg ⟨KL.vals [.int .i64, .int .i64, .int .i64, .int .i64, .int .i64, .str, .str, .int .i64, .bool] d⟩, .agg ⟨KL.vals [.int .i64, .int .i64, .str, .bool] r⟩] h [.one .bool] R = S_law18_WireCommands c d r h R := by kernel_rfl
theorem A_law18_WireCommands {c : KL [.int .i64, .int .i64, .int .i64, .int .i64, .int .i64, .str, .str, .int .i64, .bool]} {d : KL [.int .i64, .int .i64, .int .i64, .int .i64, .int .i64, .str, .str, .int .i64, .bool]} {r : KL [.int .i64, .int .i64, .str, .bool]} {h : Heap} {R : Bool → Heap → Prop} (hs : S_law18_WireCommands c d r h R) : C_law18_WireCommands c d r h R :=
  use_ Try.func6 (by kernel_rfl) (E_law18_WireCommands c d r h R) hs

/-- kissinggatelaw18.WirePackets -/
def S_law18_WirePackets (kind : Int) (payload : Sl) (at_ : Int) (by_ : Int) (raw : Sl) (h : Heap) (R : Bool → Heap → Prop) : Prop :=
  C_law18_fixed  h fun (r : Bool) h_ =>
  (bif !r then
    R false h_
  else
    (bif decide ((payload.n : Int) > 700) then
      R true h_
    else
      (bif decide ((raw.n : Int) > 700) then
        R true h_
      else
        C_wire_ReadPacket raw h_ fun (r1 : Int) (r2 : Sl) (r3 : Int) h_1 =>
        C_ref18_ReadPacket raw h_1 fun (r4 : Int) (r5 : ByteArray) (r6 : Int) h_2 =>
        (bif r1 != r4 then
          R false h_2
        else
          ToS Try.prog 22 9 r2 h_2 fun str =>
          (bif !(str.toList == r5.toList) then
            R false h_2
          else
            (bif r3 != r6 then
              R false h_2
            else
              C_wire_Packet kind payload h_2 fun (r7 : Sl) (r8 : Int) h_3 =>
              C_wire_ReadPacket r7 h_3 fun (r9 : Int) (r10 : Sl) (r11 : Int) h_4 =>
              (bif r8 != 0 then
                R false h_4
              else
                (bif r11 != 0 then
                  R false h_4
                else
                  (bif r9 != kind then
                    R false h_4
                  else
                    ToS Try.prog 22 9 r10 h_4 fun str1 =>
                    ToS Try.prog 22 9 payload h_4 fun str2 =>
                    (bif !(str1.toList == str2.toList) then
                      R false h_4
                    else
                      (bif (r7.n : Int) != (IntKind.i64.wrap ((payload.n : Int) + 9)) then
                        R false h_4
                      else
                        (bif by_ == 0 then
                          R true h_4
                        else
                          Nz (IntKind.u64.wrap (r7.n : Int)) (
                          Ix r7 (IntKind.i64.wrap (divV .rem .u64 (IntKind.u64.wrap at_) (IntKind.u64.wrap (r7.n : Int)))) 1 fun e =>
                          Ld (.int .u8) h_4 e fun (x : Int) =>
                          Ix r7 (IntKind.i64.wrap (divV .rem .u64 (IntKind.u64.wrap at_) (IntKind.u64.wrap (r7.n : Int)))) 1 fun e1 =>
                          St h_4 e1 (.int .u8 (bitV .xor .u8 x by_)) fun h_5 =>
                          C_wire_ReadPacket r7 h_5 fun (r12 : Int) (r13 : Sl) (r14 : Int) h_6 =>
                          R (r14 != 0) h_6
                          )
                        )
                      )
                    )
                  )
                )
              )
            )
          )
        )
      )
    )
  )
theorem E_law18_WirePackets (kind : Int) (payload : Sl) (at_ : Int) (by_ : Int) (raw : Sl) (h : Heap) (R : Bool → Heap → Prop) :
    VF Try.prog [] Try.f7 [.int .u8 kind, .slice payload.a payload.n payload.c, .int .i64 at_, .int .u8 by_, .slice raw.a raw.n raw.c] h [.one .bool] R = S_law18_WirePackets kind payload at_ by_ raw h R := by kernel_rfl
theorem A_law18_WirePackets {kind : Int} {payload : Sl} {at_ : Int} {by_ : Int} {raw : Sl} {h : Heap} {R : Bool → Heap → Prop} (hs : S_law18_WirePackets kind payload at_ by_ raw h R) : C_law18_WirePackets kind payload at_ by_ raw h R :=
  use_ Try.func7 (by kernel_rfl) (E_law18_WirePackets kind payload at_ by_ raw h R) hs

/-- kissinggatelaw18.WireReads -/
def S_law18_WireReads (b : Sl) (h : Heap) (R : Bool → Heap → Prop) : Prop :=
  C_law18_fixed  h fun (r : Bool) h_ =>
  (bif !r then
    R false h_
  else
    (bif decide ((b.n : Int) > 5000) then
      R true h_
    else
      C_wire_ReadCommand b h_ fun (r1 : KL [.int .i64, .int .i64, .int .i64, .int .i64, .int .i64, .str, .str, .int .i64, .bool]) (r2 : Int) h_1 =>
      Alloc h_1 (.cells #[.int .i64 0, .int .i64 0, .int .i64 0, .int .i64 0, .int .i64 0, .string (⟨#[]⟩ : ByteArray), .string (⟨#[]⟩ : ByteArray), .int .i64 0, .bool false] 56) fun c h_2 =>
      St h_2 c (.int .i64 r1.1) fun h_3 =>
      St h_3 (c.add 1) (.int .i64 r1.2.1) fun h_4 =>
      St h_4 (c.add 2) (.int .i64 r1.2.2.1) fun h_5 =>
      St h_5 (c.add 3) (.int .i64 r1.2.2.2.1) fun h_6 =>
      St h_6 (c.add 4) (.int .i64 r1.2.2.2.2.1) fun h_7 =>
      St h_7 (c.add 5) (.string r1.2.2.2.2.2.1) fun h_8 =>
      St h_8 (c.add 6) (.string r1.2.2.2.2.2.2.1) fun h_9 =>
      St h_9 (c.add 7) (.int .i64 r1.2.2.2.2.2.2.2.1) fun h_10 =>
      St h_10 (c.add 8) (.bool r1.2.2.2.2.2.2.2.2.1) fun h_11 =>
      ToS Try.prog 22 9 b h_11 fun str =>
      C_ref18_ReadCommand str h_11 fun (r3 : KL [.int .i64, .int .i64, .int .i64, .int .i64, .int .i64, .str, .str, .int .i64, .bool]) (r4 : Bool) h_12 =>
      Alloc h_12 (.cells #[.int .i64 0, .int .i64 0, .int .i64 0, .int .i64 0, .int .i64 0, .string (⟨#[]⟩ : ByteArray), .string (⟨#[]⟩ : ByteArray), .int .i64 0, .bool false] 56) fun x h_13 =>
      St h_13 x (.int .i64 r3.1) fun h_14 =>
      St h_14 (x.add 1) (.int .i64 r3.2.1) fun h_15 =>
      St h_15 (x.add 2) (.int .i64 r3.2.2.1) fun h_16 =>
      St h_16 (x.add 3) (.int .i64 r3.2.2.2.1) fun h_17 =>
      St h_17 (x.add 4) (.int .i64 r3.2.2.2.2.1) fun h_18 =>
      St h_18 (x.add 5) (.string r3.2.2.2.2.2.1) fun h_19 =>
      St h_19 (x.add 6) (.string r3.2.2.2.2.2.2.1) fun h_20 =>
      St h_20 (x.add 7) (.int .i64 r3.2.2.2.2.2.2.2.1) fun h_21 =>
      St h_21 (x.add 8) (.bool r3.2.2.2.2.2.2.2.2.1) fun h_22 =>
      C_wire_ReadReply b h_22 fun (r5 : KL [.int .i64, .int .i64, .str, .bool]) (r6 : Int) h_23 =>
      Alloc h_23 (.cells #[.int .i64 0, .int .i64 0, .string (⟨#[]⟩ : ByteArray), .bool false] 58) fun r7 h_24 =>
      St h_24 r7 (.int .i64 r5.1) fun h_25 =>
      St h_25 (r7.add 1) (.int .i64 r5.2.1) fun h_26 =>
      St h_26 (r7.add 2) (.string r5.2.2.1) fun h_27 =>
      St h_27 (r7.add 3) (.bool r5.2.2.2.1) fun h_28 =>
      ToS Try.prog 22 9 b h_28 fun str1 =>
      C_ref18_ReadReply str1 h_28 fun (r8 : KL [.int .i64, .int .i64, .str, .bool]) (r9 : Bool) h_29 =>
      Alloc h_29 (.cells #[.int .i64 0, .int .i64 0, .string (⟨#[]⟩ : ByteArray), .bool false] 58) fun y h_30 =>
      St h_30 y (.int .i64 r8.1) fun h_31 =>
      St h_31 (y.add 1) (.int .i64 r8.2.1) fun h_32 =>
      St h_32 (y.add 2) (.string r8.2.2.1) fun h_33 =>
      St h_33 (y.add 3) (.bool r8.2.2.2.1) fun h_34 =>
      C_wire_ReadMessage b h_34 fun (r10 : KL [.int .i64, .int .i64, .int .i64, .int .i64, .int .i64, .int .i64, .int .i64, .bool, .sl]) (r11 : Int) h_35 =>
      Alloc h_35 (.cells #[.int .i64 0, .int .i64 0, .int .i64 0, .int .i64 0, .int .i64 0, .int .i64 0, .int .i64 0, .bool false, .slice none 0 0] 81) fun m h_36 =>
      St h_36 m (.int .i64 r10.1) fun h_37 =>
      St h_37 (m.add 1) (.int .i64 r10.2.1) fun h_38 =>
      St h_38 (m.add 2) (.int .i64 r10.2.2.1) fun h_39 =>
      St h_39 (m.add 3) (.int .i64 r10.2.2.2.1) fun h_40 =>
      St h_40 (m.add 4) (.int .i64 r10.2.2.2.2.1) fun h_41 =>
      St h_41 (m.add 5) (.int .i64 r10.2.2.2.2.2.1) fun h_42 =>
      St h_42 (m.add 6) (.int .i64 r10.2.2.2.2.2.2.1) fun h_43 =>
      St h_43 (m.add 7) (.bool r10.2.2.2.2.2.2.2.1) fun h_44 =>
      St h_44 (m.add 8) (.slice r10.2.2.2.2.2.2.2.2.1.a r10.2.2.2.2.2.2.2.2.1.n r10.2.2.2.2.2.2.2.2.1.c) fun h_45 =>
      ToS Try.prog 22 9 b h_45 fun str2 =>
      C_ref18_ReadMessage str2 h_45 fun (r12 : KL [.int .i64, .int .i64, .int .i64, .int .i64, .int .i64, .int .i64, .int .i64, .bool, .sl]) (r13 : Bool) h_46 =>
      Alloc h_46 (.cells #[.int .i64 0, .int .i64 0, .int .i64 0, .int .i64 0, .int .i64 0, .int .i64 0, .int .i64 0, .bool false, .slice none 0 0] 81) fun z h_47 =>
      St h_47 z (.int .i64 r12.1) fun h_48 =>
      St h_48 (z.add 1) (.int .i64 r12.2.1) fun h_49 =>
      St h_49 (z.add 2) (.int .i64 r12.2.2.1) fun h_50 =>
      St h_50 (z.add 3) (.int .i64 r12.2.2.2.1) fun h_51 =>
      St h_51 (z.add 4) (.int .i64 r12.2.2.2.2.1) fun h_52 =>
      St h_52 (z.add 5) (.int .i64 r12.2.2.2.2.2.1) fun h_53 =>
      St h_53 (z.add 6) (.int .i64 r12.2.2.2.2.2.2.1) fun h_54 =>
      St h_54 (z.add 7) (.bool r12.2.2.2.2.2.2.2.1) fun h_55 =>
      St h_55 (z.add 8) (.slice r12.2.2.2.2.2.2.2.2.1.a r12.2.2.2.2.2.2.2.2.1.n r12.2.2.2.2.2.2.2.2.1.c) fun h_56 =>
      Ld (.int .i64) h_56 c fun (x_Kind : Int) =>
      Ld (.int .i64) h_56 (c.add 1) fun (x_Tx : Int) =>
      Ld (.int .i64) h_56 (c.add 2) fun (x_Attempt : Int) =>
      Ld (.int .i64) h_56 (c.add 3) fun (x_Stamp : Int) =>
      Ld (.int .i64) h_56 (c.add 4) fun (x_Op : Int) =>
      Ld .str h_56 (c.add 5) fun (x_Key : ByteArray) =>
      Ld .str h_56 (c.add 6) fun (x_Value : ByteArray) =>
      Ld (.int .i64) h_56 (c.add 7) fun (x_Mode : Int) =>
      Ld .bool h_56 (c.add 8) fun (x_Yes : Bool) =>
      Ld (.int .i64) h_56 x fun (x_Kind1 : Int) =>
      Ld (.int .i64) h_56 (x.add 1) fun (x_Tx1 : Int) =>
      Ld (.int .i64) h_56 (x.add 2) fun (x_Attempt1 : Int) =>
      Ld (.int .i64) h_56 (x.add 3) fun (x_Stamp1 : Int) =>
      Ld (.int .i64) h_56 (x.add 4) fun (x_Op1 : Int) =>
      Ld .str h_56 (x.add 5) fun (x_Key1 : ByteArray) =>
      Ld .str h_56 (x.add 6) fun (x_Value1 : ByteArray) =>
      Ld (.int .i64) h_56 (x.add 7) fun (x_Mode1 : Int) =>
      Ld .bool h_56 (x.add 8) fun (x_Yes1 : Bool) =>
      OpV Try.prog (do eqGuard .neq 56 (.tmp 59) (.tmp 60) (.agg #[.int .i64 x_Kind, .int .i64 x_Tx, .int .i64 x_Attempt, .int .i64 x_Stamp, .int .i64 x_Op, .string x_Key, .string x_Value, .int .i64 x_Mode, .bool x_Yes]) (.agg #[.int .i64 x_Kind1, .int .i64 x_Tx1, .int .i64 x_Attempt1, .int .i64 x_Stamp1, .int .i64 x_Op1, .string x_Key1, .string x_Value1, .int .i64 x_Mode1, .bool x_Yes1]); binOp .neq 56 (.agg #[.int .i64 x_Kind, .int .i64 x_Tx, .int .i64 x_Attempt, .int .i64 x_Stamp, .int .i64 x_Op, .string x_Key, .string x_Value, .int .i64 x_Mode, .bool x_Yes]) (.agg #[.int .i64 x_Kind1, .int .i64 x_Tx1, .int .i64 x_Attempt1, .int .i64 x_Stamp1, .int .i64 x_Op1, .string x_Key1, .string x_Value1, .int .i64 x_Mode1, .bool x_Yes1])) h_56 [.one .bool] fun (q : Bool) =>
      (bif q then
        R false h_56
      else
        Ld (.int .i64) h_56 r7 fun (x_Code : Int) =>
        Ld (.int .i64) h_56 (r7.add 1) fun (x_State : Int) =>
        Ld .str h_56 (r7.add 2) fun (x_Value2 : ByteArray) =>
        Ld .bool h_56 (r7.add 3) fun (x_Has : Bool) =>
        Ld (.int .i64) h_56 y fun (x_Code1 : Int) =>
        Ld (.int .i64) h_56 (y.add 1) fun (x_State1 : Int) =>
        Ld .str h_56 (y.add 2) fun (x_Value3 : ByteArray) =>
        Ld .bool h_56 (y.add 3) fun (x_Has1 : Bool) =>
        OpV Try.prog (do eqGuard .neq 58 (.tmp 63) (.tmp 64) (.agg #[.int .i64 x_Code, .int .i64 x_State, .string x_Value2, .bool x_Has]) (.agg #[.int .i64 x_Code1, .int .i64 x_State1, .string x_Value3, .bool x_Has1]); binOp .neq 58 (.agg #[.int .i64 x_Code, .int .i64 x_State, .string x_Value2, .bool x_Has]) (.agg #[.int .i64 x_Code1, .int .i64 x_State1, .string x_Value3, .bool x_Has1])) h_56 [.one .bool] fun (q1 : Bool) =>
        (bif q1 then
          R false h_56
        else
          Ld (.int .i64) h_56 m fun (x_Kind2 : Int) =>
          Ld (.int .i64) h_56 (m.add 1) fun (x_From : Int) =>
          Ld (.int .i64) h_56 (m.add 2) fun (x_To : Int) =>
          Ld (.int .i64) h_56 (m.add 3) fun (x_Term : Int) =>
          Ld (.int .i64) h_56 (m.add 4) fun (x_Index : Int) =>
          Ld (.int .i64) h_56 (m.add 5) fun (x_LogTerm : Int) =>
          Ld (.int .i64) h_56 (m.add 6) fun (x_Commit : Int) =>
          Ld .bool h_56 (m.add 7) fun (x_Yes2 : Bool) =>
          Ld .sl h_56 (m.add 8) fun (x_Entries : Sl) =>
          Ld (.int .i64) h_56 z fun (x_Kind3 : Int) =>
          Ld (.int .i64) h_56 (z.add 1) fun (x_From1 : Int) =>
          Ld (.int .i64) h_56 (z.add 2) fun (x_To1 : Int) =>
          Ld (.int .i64) h_56 (z.add 3) fun (x_Term1 : Int) =>
          Ld (.int .i64) h_56 (z.add 4) fun (x_Index1 : Int) =>
          Ld (.int .i64) h_56 (z.add 5) fun (x_LogTerm1 : Int) =>
          Ld (.int .i64) h_56 (z.add 6) fun (x_Commit1 : Int) =>
          Ld .bool h_56 (z.add 7) fun (x_Yes3 : Bool) =>
          Ld .sl h_56 (z.add 8) fun (x_Entries1 : Sl) =>
          C_ref18_Same (x_Kind2, x_From, x_To, x_Term, x_Index, x_LogTerm, x_Commit, x_Yes2, x_Entries, ()) (x_Kind3, x_From1, x_To1, x_Term1, x_Index1, x_LogTerm1, x_Commit1, x_Yes3, x_Entries1, ()) h_56 fun (r14 : Bool) h_57 =>
          (bif !r14 then
            R false h_57
          else
            (bif !((r2 == 0) == r4) then
              R false h_57
            else
              (bif !((r6 == 0) == r9) then
                R false h_57
              else
                (bif !((r11 == 0) == r13) then
                  R false h_57
                else
                  (bif !r4 then
                    (bif r2 != 2 then
                      R false h_57
                    else
                      (bif !r9 then
                        (bif r6 != 2 then
                          R false h_57
                        else
                          (bif !r13 then
                            (bif r11 != 2 then
                              R false h_57
                            else
                              Join [] (fun _ h_58 =>
                                Join [] (fun _ h_59 =>
                                  (bif r13 then
                                    Ld (.int .i64) h_59 m fun (x_Kind4 : Int) =>
                                    Ld (.int .i64) h_59 (m.add 1) fun (x_From2 : Int) =>
                                    Ld (.int .i64) h_59 (m.add 2) fun (x_To2 : Int) =>
                                    Ld (.int .i64) h_59 (m.add 3) fun (x_Term2 : Int) =>
                                    Ld (.int .i64) h_59 (m.add 4) fun (x_Index2 : Int) =>
                                    Ld (.int .i64) h_59 (m.add 5) fun (x_LogTerm2 : Int) =>
                                    Ld (.int .i64) h_59 (m.add 6) fun (x_Commit2 : Int) =>
                                    Ld .bool h_59 (m.add 7) fun (x_Yes4 : Bool) =>
                                    Ld .sl h_59 (m.add 8) fun (x_Entries2 : Sl) =>
                                    C_wire_Message (x_Kind4, x_From2, x_To2, x_Term2, x_Index2, x_LogTerm2, x_Commit2, x_Yes4, x_Entries2, ()) h_59 fun (r15 : Sl) (r16 : Int) h_60 =>
                                    (bif r16 != 0 then
                                      R false h_60
                                    else
                                      ToS Try.prog 22 9 r15 h_60 fun str3 =>
                                      ToS Try.prog 22 9 b h_60 fun str4 =>
                                      (bif !(str3.toList == str4.toList) then
                                        R false h_60
                                      else
                                        R true h_60
                                      )
                                    )
                                  else
                                    R true h_59
                                  )
                                  ) fun J1 =>
                                (bif r9 then
                                  Ld (.int .i64) h_58 r7 fun (x_Code2 : Int) =>
                                  Ld (.int .i64) h_58 (r7.add 1) fun (x_State2 : Int) =>
                                  Ld .str h_58 (r7.add 2) fun (x_Value4 : ByteArray) =>
                                  Ld .bool h_58 (r7.add 3) fun (x_Has2 : Bool) =>
                                  C_wire_Reply (x_Code2, x_State2, x_Value4, x_Has2, ()) h_58 fun (r17 : Sl) (r18 : Int) h_61 =>
                                  (bif r18 != 0 then
                                    R false h_61
                                  else
                                    ToS Try.prog 22 9 r17 h_61 fun str5 =>
                                    ToS Try.prog 22 9 b h_61 fun str6 =>
                                    (bif !(str5.toList == str6.toList) then
                                      R false h_61
                                    else
                                      J1  h_61
                                    )
                                  )
                                else
                                  J1  h_58
                                )
                                ) fun J =>
                              (bif r4 then
                                Ld (.int .i64) h_57 c fun (x_Kind5 : Int) =>
                                Ld (.int .i64) h_57 (c.add 1) fun (x_Tx2 : Int) =>
                                Ld (.int .i64) h_57 (c.add 2) fun (x_Attempt2 : Int) =>
                                Ld (.int .i64) h_57 (c.add 3) fun (x_Stamp2 : Int) =>
                                Ld (.int .i64) h_57 (c.add 4) fun (x_Op2 : Int) =>
                                Ld .str h_57 (c.add 5) fun (x_Key2 : ByteArray) =>
                                Ld .str h_57 (c.add 6) fun (x_Value5 : ByteArray) =>
                                Ld (.int .i64) h_57 (c.add 7) fun (x_Mode2 : Int) =>
                                Ld .bool h_57 (c.add 8) fun (x_Yes5 : Bool) =>
                                C_wire_Command (x_Kind5, x_Tx2, x_Attempt2, x_Stamp2, x_Op2, x_Key2, x_Value5, x_Mode2, x_Yes5, ()) h_57 fun (r19 : Sl) (r20 : Int) h_62 =>
                                (bif r20 != 0 then
                                  R false h_62
                                else
                                  ToS Try.prog 22 9 r19 h_62 fun str7 =>
                                  ToS Try.prog 22 9 b h_62 fun str8 =>
                                  (bif !(str7.toList == str8.toList) then
                                    R false h_62
                                  else
                                    J  h_62
                                  )
                                )
                              else
                                J  h_57
                              )
                            )
                          else
                            Join [] (fun _ h_63 =>
                              Join [] (fun _ h_64 =>
                                (bif r13 then
                                  Ld (.int .i64) h_64 m fun (x_Kind6 : Int) =>
                                  Ld (.int .i64) h_64 (m.add 1) fun (x_From3 : Int) =>
                                  Ld (.int .i64) h_64 (m.add 2) fun (x_To3 : Int) =>
                                  Ld (.int .i64) h_64 (m.add 3) fun (x_Term3 : Int) =>
                                  Ld (.int .i64) h_64 (m.add 4) fun (x_Index3 : Int) =>
                                  Ld (.int .i64) h_64 (m.add 5) fun (x_LogTerm3 : Int) =>
                                  Ld (.int .i64) h_64 (m.add 6) fun (x_Commit3 : Int) =>
                                  Ld .bool h_64 (m.add 7) fun (x_Yes6 : Bool) =>
                                  Ld .sl h_64 (m.add 8) fun (x_Entries3 : Sl) =>
                                  C_wire_Message (x_Kind6, x_From3, x_To3, x_Term3, x_Index3, x_LogTerm3, x_Commit3, x_Yes6, x_Entries3, ()) h_64 fun (r21 : Sl) (r22 : Int) h_65 =>
                                  (bif r22 != 0 then
                                    R false h_65
                                  else
                                    ToS Try.prog 22 9 r21 h_65 fun str9 =>
                                    ToS Try.prog 22 9 b h_65 fun str10 =>
                                    (bif !(str9.toList == str10.toList) then
                                      R false h_65
                                    else
                                      R true h_65
                                    )
                                  )
                                else
                                  R true h_64
                                )
                                ) fun J3 =>
                              (bif r9 then
                                Ld (.int .i64) h_63 r7 fun (x_Code3 : Int) =>
                                Ld (.int .i64) h_63 (r7.add 1) fun (x_State3 : Int) =>
                                Ld .str h_63 (r7.add 2) fun (x_Value6 : ByteArray) =>
                                Ld .bool h_63 (r7.add 3) fun (x_Has3 : Bool) =>
                                C_wire_Reply (x_Code3, x_State3, x_Value6, x_Has3, ()) h_63 fun (r23 : Sl) (r24 : Int) h_66 =>
                                (bif r24 != 0 then
                                  R false h_66
                                else
                                  ToS Try.prog 22 9 r23 h_66 fun str11 =>
                                  ToS Try.prog 22 9 b h_66 fun str12 =>
                                  (bif !(str11.toList == str12.toList) then
                                    R false h_66
                                  else
                                    J3  h_66
                                  )
                                )
                              else
                                J3  h_63
                              )
                              ) fun J2 =>
                            (bif r4 then
                              Ld (.int .i64) h_57 c fun (x_Kind7 : Int) =>
                              Ld (.int .i64) h_57 (c.add 1) fun (x_Tx3 : Int) =>
                              Ld (.int .i64) h_57 (c.add 2) fun (x_Attempt3 : Int) =>
                              Ld (.int .i64) h_57 (c.add 3) fun (x_Stamp3 : Int) =>
                              Ld (.int .i64) h_57 (c.add 4) fun (x_Op3 : Int) =>
                              Ld .str h_57 (c.add 5) fun (x_Key3 : ByteArray) =>
                              Ld .str h_57 (c.add 6) fun (x_Value7 : ByteArray) =>
                              Ld (.int .i64) h_57 (c.add 7) fun (x_Mode3 : Int) =>
                              Ld .bool h_57 (c.add 8) fun (x_Yes7 : Bool) =>
                              C_wire_Command (x_Kind7, x_Tx3, x_Attempt3, x_Stamp3, x_Op3, x_Key3, x_Value7, x_Mode3, x_Yes7, ()) h_57 fun (r25 : Sl) (r26 : Int) h_67 =>
                              (bif r26 != 0 then
                                R false h_67
                              else
                                ToS Try.prog 22 9 r25 h_67 fun str13 =>
                                ToS Try.prog 22 9 b h_67 fun str14 =>
                                (bif !(str13.toList == str14.toList) then
                                  R false h_67
                                else
                                  J2  h_67
                                )
                              )
                            else
                              J2  h_57
                            )
                          )
                        )
                      else
                        (bif !r13 then
                          (bif r11 != 2 then
                            R false h_57
                          else
                            Join [] (fun _ h_68 =>
                              Join [] (fun _ h_69 =>
                                (bif r13 then
                                  Ld (.int .i64) h_69 m fun (x_Kind8 : Int) =>
                                  Ld (.int .i64) h_69 (m.add 1) fun (x_From4 : Int) =>
                                  Ld (.int .i64) h_69 (m.add 2) fun (x_To4 : Int) =>
                                  Ld (.int .i64) h_69 (m.add 3) fun (x_Term4 : Int) =>
                                  Ld (.int .i64) h_69 (m.add 4) fun (x_Index4 : Int) =>
                                  Ld (.int .i64) h_69 (m.add 5) fun (x_LogTerm4 : Int) =>
                                  Ld (.int .i64) h_69 (m.add 6) fun (x_Commit4 : Int) =>
                                  Ld .bool h_69 (m.add 7) fun (x_Yes8 : Bool) =>
                                  Ld .sl h_69 (m.add 8) fun (x_Entries4 : Sl) =>
                                  C_wire_Message (x_Kind8, x_From4, x_To4, x_Term4, x_Index4, x_LogTerm4, x_Commit4, x_Yes8, x_Entries4, ()) h_69 fun (r27 : Sl) (r28 : Int) h_70 =>
                                  (bif r28 != 0 then
                                    R false h_70
                                  else
                                    ToS Try.prog 22 9 r27 h_70 fun str15 =>
                                    ToS Try.prog 22 9 b h_70 fun str16 =>
                                    (bif !(str15.toList == str16.toList) then
                                      R false h_70
                                    else
                                      R true h_70
                                    )
                                  )
                                else
                                  R true h_69
                                )
                                ) fun J5 =>
                              (bif r9 then
                                Ld (.int .i64) h_68 r7 fun (x_Code4 : Int) =>
                                Ld (.int .i64) h_68 (r7.add 1) fun (x_State4 : Int) =>
                                Ld .str h_68 (r7.add 2) fun (x_Value8 : ByteArray) =>
                                Ld .bool h_68 (r7.add 3) fun (x_Has4 : Bool) =>
                                C_wire_Reply (x_Code4, x_State4, x_Value8, x_Has4, ()) h_68 fun (r29 : Sl) (r30 : Int) h_71 =>
                                (bif r30 != 0 then
                                  R false h_71
                                else
                                  ToS Try.prog 22 9 r29 h_71 fun str17 =>
                                  ToS Try.prog 22 9 b h_71 fun str18 =>
                                  (bif !(str17.toList == str18.toList) then
                                    R false h_71
                                  else
                                    J5  h_71
                                  )
                                )
                              else
                                J5  h_68
                              )
                              ) fun J4 =>
                            (bif r4 then
                              Ld (.int .i64) h_57 c fun (x_Kind9 : Int) =>
                              Ld (.int .i64) h_57 (c.add 1) fun (x_Tx4 : Int) =>
                              Ld (.int .i64) h_57 (c.add 2) fun (x_Attempt4 : Int) =>
                              Ld (.int .i64) h_57 (c.add 3) fun (x_Stamp4 : Int) =>
                              Ld (.int .i64) h_57 (c.add 4) fun (x_Op4 : Int) =>
                              Ld .str h_57 (c.add 5) fun (x_Key4 : ByteArray) =>
                              Ld .str h_57 (c.add 6) fun (x_Value9 : ByteArray) =>
                              Ld (.int .i64) h_57 (c.add 7) fun (x_Mode4 : Int) =>
                              Ld .bool h_57 (c.add 8) fun (x_Yes9 : Bool) =>
                              C_wire_Command (x_Kind9, x_Tx4, x_Attempt4, x_Stamp4, x_Op4, x_Key4, x_Value9, x_Mode4, x_Yes9, ()) h_57 fun (r31 : Sl) (r32 : Int) h_72 =>
                              (bif r32 != 0 then
                                R false h_72
                              else
                                ToS Try.prog 22 9 r31 h_72 fun str19 =>
                                ToS Try.prog 22 9 b h_72 fun str20 =>
                                (bif !(str19.toList == str20.toList) then
                                  R false h_72
                                else
                                  J4  h_72
                                )
                              )
                            else
                              J4  h_57
                            )
                          )
                        else
                          Join [] (fun _ h_73 =>
                            Join [] (fun _ h_74 =>
                              (bif r13 then
                                Ld (.int .i64) h_74 m fun (x_Kind10 : Int) =>
                                Ld (.int .i64) h_74 (m.add 1) fun (x_From5 : Int) =>
                                Ld (.int .i64) h_74 (m.add 2) fun (x_To5 : Int) =>
                                Ld (.int .i64) h_74 (m.add 3) fun (x_Term5 : Int) =>
                                Ld (.int .i64) h_74 (m.add 4) fun (x_Index5 : Int) =>
                                Ld (.int .i64) h_74 (m.add 5) fun (x_LogTerm5 : Int) =>
                                Ld (.int .i64) h_74 (m.add 6) fun (x_Commit5 : Int) =>
                                Ld .bool h_74 (m.add 7) fun (x_Yes10 : Bool) =>
                                Ld .sl h_74 (m.add 8) fun (x_Entries5 : Sl) =>
                                C_wire_Message (x_Kind10, x_From5, x_To5, x_Term5, x_Index5, x_LogTerm5, x_Commit5, x_Yes10, x_Entries5, ()) h_74 fun (r33 : Sl) (r34 : Int) h_75 =>
                                (bif r34 != 0 then
                                  R false h_75
                                else
                                  ToS Try.prog 22 9 r33 h_75 fun str21 =>
                                  ToS Try.prog 22 9 b h_75 fun str22 =>
                                  (bif !(str21.toList == str22.toList) then
                                    R false h_75
                                  else
                                    R true h_75
                                  )
                                )
                              else
                                R true h_74
                              )
                              ) fun J7 =>
                            (bif r9 then
                              Ld (.int .i64) h_73 r7 fun (x_Code5 : Int) =>
                              Ld (.int .i64) h_73 (r7.add 1) fun (x_State5 : Int) =>
                              Ld .str h_73 (r7.add 2) fun (x_Value10 : ByteArray) =>
                              Ld .bool h_73 (r7.add 3) fun (x_Has5 : Bool) =>
                              C_wire_Reply (x_Code5, x_State5, x_Value10, x_Has5, ()) h_73 fun (r35 : Sl) (r36 : Int) h_76 =>
                              (bif r36 != 0 then
                                R false h_76
                              else
                                ToS Try.prog 22 9 r35 h_76 fun str23 =>
                                ToS Try.prog 22 9 b h_76 fun str24 =>
                                (bif !(str23.toList == str24.toList) then
                                  R false h_76
                                else
                                  J7  h_76
                                )
                              )
                            else
                              J7  h_73
                            )
                            ) fun J6 =>
                          (bif r4 then
                            Ld (.int .i64) h_57 c fun (x_Kind11 : Int) =>
                            Ld (.int .i64) h_57 (c.add 1) fun (x_Tx5 : Int) =>
                            Ld (.int .i64) h_57 (c.add 2) fun (x_Attempt5 : Int) =>
                            Ld (.int .i64) h_57 (c.add 3) fun (x_Stamp5 : Int) =>
                            Ld (.int .i64) h_57 (c.add 4) fun (x_Op5 : Int) =>
                            Ld .str h_57 (c.add 5) fun (x_Key5 : ByteArray) =>
                            Ld .str h_57 (c.add 6) fun (x_Value11 : ByteArray) =>
                            Ld (.int .i64) h_57 (c.add 7) fun (x_Mode5 : Int) =>
                            Ld .bool h_57 (c.add 8) fun (x_Yes11 : Bool) =>
                            C_wire_Command (x_Kind11, x_Tx5, x_Attempt5, x_Stamp5, x_Op5, x_Key5, x_Value11, x_Mode5, x_Yes11, ()) h_57 fun (r37 : Sl) (r38 : Int) h_77 =>
                            (bif r38 != 0 then
                              R false h_77
                            else
                              ToS Try.prog 22 9 r37 h_77 fun str25 =>
                              ToS Try.prog 22 9 b h_77 fun str26 =>
                              (bif !(str25.toList == str26.toList) then
                                R false h_77
                              else
                                J6  h_77
                              )
                            )
                          else
                            J6  h_57
                          )
                        )
                      )
                    )
                  else
                    (bif !r9 then
                      (bif r6 != 2 then
                        R false h_57
                      else
                        (bif !r13 then
                          (bif r11 != 2 then
                            R false h_57
                          else
                            Join [] (fun _ h_78 =>
                              Join [] (fun _ h_79 =>
                                (bif r13 then
                                  Ld (.int .i64) h_79 m fun (x_Kind12 : Int) =>
                                  Ld (.int .i64) h_79 (m.add 1) fun (x_From6 : Int) =>
                                  Ld (.int .i64) h_79 (m.add 2) fun (x_To6 : Int) =>
                                  Ld (.int .i64) h_79 (m.add 3) fun (x_Term6 : Int) =>
                                  Ld (.int .i64) h_79 (m.add 4) fun (x_Index6 : Int) =>
                                  Ld (.int .i64) h_79 (m.add 5) fun (x_LogTerm6 : Int) =>
                                  Ld (.int .i64) h_79 (m.add 6) fun (x_Commit6 : Int) =>
                                  Ld .bool h_79 (m.add 7) fun (x_Yes12 : Bool) =>
                                  Ld .sl h_79 (m.add 8) fun (x_Entries6 : Sl) =>
                                  C_wire_Message (x_Kind12, x_From6, x_To6, x_Term6, x_Index6, x_LogTerm6, x_Commit6, x_Yes12, x_Entries6, ()) h_79 fun (r39 : Sl) (r40 : Int) h_80 =>
                                  (bif r40 != 0 then
                                    R false h_80
                                  else
                                    ToS Try.prog 22 9 r39 h_80 fun str27 =>
                                    ToS Try.prog 22 9 b h_80 fun str28 =>
                                    (bif !(str27.toList == str28.toList) then
                                      R false h_80
                                    else
                                      R true h_80
                                    )
                                  )
                                else
                                  R true h_79
                                )
                                ) fun J9 =>
                              (bif r9 then
                                Ld (.int .i64) h_78 r7 fun (x_Code6 : Int) =>
                                Ld (.int .i64) h_78 (r7.add 1) fun (x_State6 : Int) =>
                                Ld .str h_78 (r7.add 2) fun (x_Value12 : ByteArray) =>
                                Ld .bool h_78 (r7.add 3) fun (x_Has6 : Bool) =>
                                C_wire_Reply (x_Code6, x_State6, x_Value12, x_Has6, ()) h_78 fun (r41 : Sl) (r42 : Int) h_81 =>
                                (bif r42 != 0 then
                                  R false h_81
                                else
                                  ToS Try.prog 22 9 r41 h_81 fun str29 =>
                                  ToS Try.prog 22 9 b h_81 fun str30 =>
                                  (bif !(str29.toList == str30.toList) then
                                    R false h_81
                                  else
                                    J9  h_81
                                  )
                                )
                              else
                                J9  h_78
                              )
                              ) fun J8 =>
                            (bif r4 then
                              Ld (.int .i64) h_57 c fun (x_Kind13 : Int) =>
                              Ld (.int .i64) h_57 (c.add 1) fun (x_Tx6 : Int) =>
                              Ld (.int .i64) h_57 (c.add 2) fun (x_Attempt6 : Int) =>
                              Ld (.int .i64) h_57 (c.add 3) fun (x_Stamp6 : Int) =>
                              Ld (.int .i64) h_57 (c.add 4) fun (x_Op6 : Int) =>
                              Ld .str h_57 (c.add 5) fun (x_Key6 : ByteArray) =>
                              Ld .str h_57 (c.add 6) fun (x_Value13 : ByteArray) =>
                              Ld (.int .i64) h_57 (c.add 7) fun (x_Mode6 : Int) =>
                              Ld .bool h_57 (c.add 8) fun (x_Yes13 : Bool) =>
                              C_wire_Command (x_Kind13, x_Tx6, x_Attempt6, x_Stamp6, x_Op6, x_Key6, x_Value13, x_Mode6, x_Yes13, ()) h_57 fun (r43 : Sl) (r44 : Int) h_82 =>
                              (bif r44 != 0 then
                                R false h_82
                              else
                                ToS Try.prog 22 9 r43 h_82 fun str31 =>
                                ToS Try.prog 22 9 b h_82 fun str32 =>
                                (bif !(str31.toList == str32.toList) then
                                  R false h_82
                                else
                                  J8  h_82
                                )
                              )
                            else
                              J8  h_57
                            )
                          )
                        else
                          Join [] (fun _ h_83 =>
                            Join [] (fun _ h_84 =>
                              (bif r13 then
                                Ld (.int .i64) h_84 m fun (x_Kind14 : Int) =>
                                Ld (.int .i64) h_84 (m.add 1) fun (x_From7 : Int) =>
                                Ld (.int .i64) h_84 (m.add 2) fun (x_To7 : Int) =>
                                Ld (.int .i64) h_84 (m.add 3) fun (x_Term7 : Int) =>
                                Ld (.int .i64) h_84 (m.add 4) fun (x_Index7 : Int) =>
                                Ld (.int .i64) h_84 (m.add 5) fun (x_LogTerm7 : Int) =>
                                Ld (.int .i64) h_84 (m.add 6) fun (x_Commit7 : Int) =>
                                Ld .bool h_84 (m.add 7) fun (x_Yes14 : Bool) =>
                                Ld .sl h_84 (m.add 8) fun (x_Entries7 : Sl) =>
                                C_wire_Message (x_Kind14, x_From7, x_To7, x_Term7, x_Index7, x_LogTerm7, x_Commit7, x_Yes14, x_Entries7, ()) h_84 fun (r45 : Sl) (r46 : Int) h_85 =>
                                (bif r46 != 0 then
                                  R false h_85
                                else
                                  ToS Try.prog 22 9 r45 h_85 fun str33 =>
                                  ToS Try.prog 22 9 b h_85 fun str34 =>
                                  (bif !(str33.toList == str34.toList) then
                                    R false h_85
                                  else
                                    R true h_85
                                  )
                                )
                              else
                                R true h_84
                              )
                              ) fun J11 =>
                            (bif r9 then
                              Ld (.int .i64) h_83 r7 fun (x_Code7 : Int) =>
                              Ld (.int .i64) h_83 (r7.add 1) fun (x_State7 : Int) =>
                              Ld .str h_83 (r7.add 2) fun (x_Value14 : ByteArray) =>
                              Ld .bool h_83 (r7.add 3) fun (x_Has7 : Bool) =>
                              C_wire_Reply (x_Code7, x_State7, x_Value14, x_Has7, ()) h_83 fun (r47 : Sl) (r48 : Int) h_86 =>
                              (bif r48 != 0 then
                                R false h_86
                              else
                                ToS Try.prog 22 9 r47 h_86 fun str35 =>
                                ToS Try.prog 22 9 b h_86 fun str36 =>
                                (bif !(str35.toList == str36.toList) then
                                  R false h_86
                                else
                                  J11  h_86
                                )
                              )
                            else
                              J11  h_83
                            )
                            ) fun J10 =>
                          (bif r4 then
                            Ld (.int .i64) h_57 c fun (x_Kind15 : Int) =>
                            Ld (.int .i64) h_57 (c.add 1) fun (x_Tx7 : Int) =>
                            Ld (.int .i64) h_57 (c.add 2) fun (x_Attempt7 : Int) =>
                            Ld (.int .i64) h_57 (c.add 3) fun (x_Stamp7 : Int) =>
                            Ld (.int .i64) h_57 (c.add 4) fun (x_Op7 : Int) =>
                            Ld .str h_57 (c.add 5) fun (x_Key7 : ByteArray) =>
                            Ld .str h_57 (c.add 6) fun (x_Value15 : ByteArray) =>
                            Ld (.int .i64) h_57 (c.add 7) fun (x_Mode7 : Int) =>
                            Ld .bool h_57 (c.add 8) fun (x_Yes15 : Bool) =>
                            C_wire_Command (x_Kind15, x_Tx7, x_Attempt7, x_Stamp7, x_Op7, x_Key7, x_Value15, x_Mode7, x_Yes15, ()) h_57 fun (r49 : Sl) (r50 : Int) h_87 =>
                            (bif r50 != 0 then
                              R false h_87
                            else
                              ToS Try.prog 22 9 r49 h_87 fun str37 =>
                              ToS Try.prog 22 9 b h_87 fun str38 =>
                              (bif !(str37.toList == str38.toList) then
                                R false h_87
                              else
                                J10  h_87
                              )
                            )
                          else
                            J10  h_57
                          )
                        )
                      )
                    else
                      (bif !r13 then
                        (bif r11 != 2 then
                          R false h_57
                        else
                          Join [] (fun _ h_88 =>
                            Join [] (fun _ h_89 =>
                              (bif r13 then
                                Ld (.int .i64) h_89 m fun (x_Kind16 : Int) =>
                                Ld (.int .i64) h_89 (m.add 1) fun (x_From8 : Int) =>
                                Ld (.int .i64) h_89 (m.add 2) fun (x_To8 : Int) =>
                                Ld (.int .i64) h_89 (m.add 3) fun (x_Term8 : Int) =>
                                Ld (.int .i64) h_89 (m.add 4) fun (x_Index8 : Int) =>
                                Ld (.int .i64) h_89 (m.add 5) fun (x_LogTerm8 : Int) =>
                                Ld (.int .i64) h_89 (m.add 6) fun (x_Commit8 : Int) =>
                                Ld .bool h_89 (m.add 7) fun (x_Yes16 : Bool) =>
                                Ld .sl h_89 (m.add 8) fun (x_Entries8 : Sl) =>
                                C_wire_Message (x_Kind16, x_From8, x_To8, x_Term8, x_Index8, x_LogTerm8, x_Commit8, x_Yes16, x_Entries8, ()) h_89 fun (r51 : Sl) (r52 : Int) h_90 =>
                                (bif r52 != 0 then
                                  R false h_90
                                else
                                  ToS Try.prog 22 9 r51 h_90 fun str39 =>
                                  ToS Try.prog 22 9 b h_90 fun str40 =>
                                  (bif !(str39.toList == str40.toList) then
                                    R false h_90
                                  else
                                    R true h_90
                                  )
                                )
                              else
                                R true h_89
                              )
                              ) fun J13 =>
                            (bif r9 then
                              Ld (.int .i64) h_88 r7 fun (x_Code8 : Int) =>
                              Ld (.int .i64) h_88 (r7.add 1) fun (x_State8 : Int) =>
                              Ld .str h_88 (r7.add 2) fun (x_Value16 : ByteArray) =>
                              Ld .bool h_88 (r7.add 3) fun (x_Has8 : Bool) =>
                              C_wire_Reply (x_Code8, x_State8, x_Value16, x_Has8, ()) h_88 fun (r53 : Sl) (r54 : Int) h_91 =>
                              (bif r54 != 0 then
                                R false h_91
                              else
                                ToS Try.prog 22 9 r53 h_91 fun str41 =>
                                ToS Try.prog 22 9 b h_91 fun str42 =>
                                (bif !(str41.toList == str42.toList) then
                                  R false h_91
                                else
                                  J13  h_91
                                )
                              )
                            else
                              J13  h_88
                            )
                            ) fun J12 =>
                          (bif r4 then
                            Ld (.int .i64) h_57 c fun (x_Kind17 : Int) =>
                            Ld (.int .i64) h_57 (c.add 1) fun (x_Tx8 : Int) =>
                            Ld (.int .i64) h_57 (c.add 2) fun (x_Attempt8 : Int) =>
                            Ld (.int .i64) h_57 (c.add 3) fun (x_Stamp8 : Int) =>
                            Ld (.int .i64) h_57 (c.add 4) fun (x_Op8 : Int) =>
                            Ld .str h_57 (c.add 5) fun (x_Key8 : ByteArray) =>
                            Ld .str h_57 (c.add 6) fun (x_Value17 : ByteArray) =>
                            Ld (.int .i64) h_57 (c.add 7) fun (x_Mode8 : Int) =>
                            Ld .bool h_57 (c.add 8) fun (x_Yes17 : Bool) =>
                            C_wire_Command (x_Kind17, x_Tx8, x_Attempt8, x_Stamp8, x_Op8, x_Key8, x_Value17, x_Mode8, x_Yes17, ()) h_57 fun (r55 : Sl) (r56 : Int) h_92 =>
                            (bif r56 != 0 then
                              R false h_92
                            else
                              ToS Try.prog 22 9 r55 h_92 fun str43 =>
                              ToS Try.prog 22 9 b h_92 fun str44 =>
                              (bif !(str43.toList == str44.toList) then
                                R false h_92
                              else
                                J12  h_92
                              )
                            )
                          else
                            J12  h_57
                          )
                        )
                      else
                        Join [] (fun _ h_93 =>
                          Join [] (fun _ h_94 =>
                            (bif r13 then
                              Ld (.int .i64) h_94 m fun (x_Kind18 : Int) =>
                              Ld (.int .i64) h_94 (m.add 1) fun (x_From9 : Int) =>
                              Ld (.int .i64) h_94 (m.add 2) fun (x_To9 : Int) =>
                              Ld (.int .i64) h_94 (m.add 3) fun (x_Term9 : Int) =>
                              Ld (.int .i64) h_94 (m.add 4) fun (x_Index9 : Int) =>
                              Ld (.int .i64) h_94 (m.add 5) fun (x_LogTerm9 : Int) =>
                              Ld (.int .i64) h_94 (m.add 6) fun (x_Commit9 : Int) =>
                              Ld .bool h_94 (m.add 7) fun (x_Yes18 : Bool) =>
                              Ld .sl h_94 (m.add 8) fun (x_Entries9 : Sl) =>
                              C_wire_Message (x_Kind18, x_From9, x_To9, x_Term9, x_Index9, x_LogTerm9, x_Commit9, x_Yes18, x_Entries9, ()) h_94 fun (r57 : Sl) (r58 : Int) h_95 =>
                              (bif r58 != 0 then
                                R false h_95
                              else
                                ToS Try.prog 22 9 r57 h_95 fun str45 =>
                                ToS Try.prog 22 9 b h_95 fun str46 =>
                                (bif !(str45.toList == str46.toList) then
                                  R false h_95
                                else
                                  R true h_95
                                )
                              )
                            else
                              R true h_94
                            )
                            ) fun J15 =>
                          (bif r9 then
                            Ld (.int .i64) h_93 r7 fun (x_Code9 : Int) =>
                            Ld (.int .i64) h_93 (r7.add 1) fun (x_State9 : Int) =>
                            Ld .str h_93 (r7.add 2) fun (x_Value18 : ByteArray) =>
                            Ld .bool h_93 (r7.add 3) fun (x_Has9 : Bool) =>
                            C_wire_Reply (x_Code9, x_State9, x_Value18, x_Has9, ()) h_93 fun (r59 : Sl) (r60 : Int) h_96 =>
                            (bif r60 != 0 then
                              R false h_96
                            else
                              ToS Try.prog 22 9 r59 h_96 fun str47 =>
                              ToS Try.prog 22 9 b h_96 fun str48 =>
                              (bif !(str47.toList == str48.toList) then
                                R false h_96
                              else
                                J15  h_96
                              )
                            )
                          else
                            J15  h_93
                          )
                          ) fun J14 =>
                        (bif r4 then
                          Ld (.int .i64) h_57 c fun (x_Kind19 : Int) =>
                          Ld (.int .i64) h_57 (c.add 1) fun (x_Tx9 : Int) =>
                          Ld (.int .i64) h_57 (c.add 2) fun (x_Attempt9 : Int) =>
                          Ld (.int .i64) h_57 (c.add 3) fun (x_Stamp9 : Int) =>
                          Ld (.int .i64) h_57 (c.add 4) fun (x_Op9 : Int) =>
                          Ld .str h_57 (c.add 5) fun (x_Key9 : ByteArray) =>
                          Ld .str h_57 (c.add 6) fun (x_Value19 : ByteArray) =>
                          Ld (.int .i64) h_57 (c.add 7) fun (x_Mode9 : Int) =>
                          Ld .bool h_57 (c.add 8) fun (x_Yes19 : Bool) =>
                          C_wire_Command (x_Kind19, x_Tx9, x_Attempt9, x_Stamp9, x_Op9, x_Key9, x_Value19, x_Mode9, x_Yes19, ()) h_57 fun (r61 : Sl) (r62 : Int) h_97 =>
                          (bif r62 != 0 then
                            R false h_97
                          else
                            ToS Try.prog 22 9 r61 h_97 fun str49 =>
                            ToS Try.prog 22 9 b h_97 fun str50 =>
                            (bif !(str49.toList == str50.toList) then
                              R false h_97
                            else
                              J14  h_97
                            )
                          )
                        else
                          J14  h_57
                        )
                      )
                    )
                  )
                )
              )
            )
          )
        )
      )
    )
  )
theorem E_law18_WireReads (b : Sl) (h : Heap) (R : Bool → Heap → Prop) :
    VF Try.prog [(8189, []), (16381, []), (8189, []), (16381, []), (8189, []), (16381, []), (8189, []), (16381, []), (8189, []), (16381, []), (8189, []), (16381, []), (8189, []), (16381, []), (8189, []), (16381, [])] Try.f8 [.slice b.a b.n b.c] h [.one .bool] R = S_law18_WireReads b h R := by kernel_rfl
theorem A_law18_WireReads {b : Sl} {h : Heap} {R : Bool → Heap → Prop} (hs : S_law18_WireReads b h R) : C_law18_WireReads b h R :=
  use_ Try.func8 (by kernel_rfl) (E_law18_WireReads b h R) hs

/-- kissinggatelaw18.WireMessages -/
def S_law18_WireMessages (m : KL [.int .i64, .int .i64, .int .i64, .int .i64, .int .i64, .int .i64, .int .i64, .bool, .sl]) (h : Heap) (R : Bool → Heap → Prop) : Prop :=
  Alloc h (.cells #[.int .i64 m.1, .int .i64 m.2.1, .int .i64 m.2.2.1, .int .i64 m.2.2.2.1, .int .i64 m.2.2.2.2.1, .int .i64 m.2.2.2.2.2.1, .int .i64 m.2.2.2.2.2.2.1, .bool m.2.2.2.2.2.2.2.1, .slice m.2.2.2.2.2.2.2.2.1.a m.2.2.2.2.2.2.2.2.1.n m.2.2.2.2.2.2.2.2.1.c] 81) fun m1 h_ =>
  C_law18_fixed  h_ fun (r : Bool) h_1 =>
  (bif !r then
    R false h_1
  else
    Ld .sl h_1 (m1.add 8) fun (Entries : Sl) =>
    (bif decide ((Entries.n : Int) > 12) then
      R true h_1
    else
      Ld .sl h_1 (m1.add 8) fun (Entries1 : Sl) =>
      Loop [.one (.int .i64)] (fun _ (x20 : Int) h_2 go =>
        (bif decide (x20 < (Entries1.n : Int)) then
          Ix Entries1 x20 2 fun e =>
          Ld (.int .i64) h_2 e fun (x_Term : Int) =>
          Ld .str h_2 (e.add 1) fun (x_Data : ByteArray) =>
          Alloc h_2 (.cells #[.int .i64 0, .string (⟨#[]⟩ : ByteArray)] 90) fun e1 h_3 =>
          St h_3 e1 (.int .i64 x_Term) fun h_4 =>
          St h_4 (e1.add 1) (.string x_Data) fun h_5 =>
          Ld .str h_5 (e1.add 1) fun (Data : ByteArray) =>
          (bif decide ((Data.size : Int) > 700) then
            R true h_5
          else
            go (IntKind.i64.wrap (x20 + 1)) h_5
          )
        else
          Ld (.int .i64) h_2 m1 fun (x_Kind : Int) =>
          Ld (.int .i64) h_2 (m1.add 1) fun (x_From : Int) =>
          Ld (.int .i64) h_2 (m1.add 2) fun (x_To : Int) =>
          Ld (.int .i64) h_2 (m1.add 3) fun (x_Term1 : Int) =>
          Ld (.int .i64) h_2 (m1.add 4) fun (x_Index : Int) =>
          Ld (.int .i64) h_2 (m1.add 5) fun (x_LogTerm : Int) =>
          Ld (.int .i64) h_2 (m1.add 6) fun (x_Commit : Int) =>
          Ld .bool h_2 (m1.add 7) fun (x_Yes : Bool) =>
          Ld .sl h_2 (m1.add 8) fun (x_Entries : Sl) =>
          C_wire_Message (x_Kind, x_From, x_To, x_Term1, x_Index, x_LogTerm, x_Commit, x_Yes, x_Entries, ()) h_2 fun (r1 : Sl) (r2 : Int) h_6 =>
          Ld (.int .i64) h_6 m1 fun (x_Kind1 : Int) =>
          Ld (.int .i64) h_6 (m1.add 1) fun (x_From1 : Int) =>
          Ld (.int .i64) h_6 (m1.add 2) fun (x_To1 : Int) =>
          Ld (.int .i64) h_6 (m1.add 3) fun (x_Term2 : Int) =>
          Ld (.int .i64) h_6 (m1.add 4) fun (x_Index1 : Int) =>
          Ld (.int .i64) h_6 (m1.add 5) fun (x_LogTerm1 : Int) =>
          Ld (.int .i64) h_6 (m1.add 6) fun (x_Commit1 : Int) =>
          Ld .bool h_6 (m1.add 7) fun (x_Yes1 : Bool) =>
          Ld .sl h_6 (m1.add 8) fun (x_Entries1 : Sl) =>
          C_ref18_Message (x_Kind1, x_From1, x_To1, x_Term2, x_Index1, x_LogTerm1, x_Commit1, x_Yes1, x_Entries1, ()) h_6 fun (r3 : ByteArray) (r4 : Bool) h_7 =>
          (bif !r4 then
            Join [.one .bool] (fun _ (x2 : Bool) h_8 =>
              R x2 h_8
              ) fun J =>
            (bif r2 == 4 then
              J ((r1.n : Int) == 0) h_7
            else
              J false h_7
            )
          else
            C_wire_ReadMessage r1 h_7 fun (r5 : KL [.int .i64, .int .i64, .int .i64, .int .i64, .int .i64, .int .i64, .int .i64, .bool, .sl]) (r6 : Int) h_9 =>
            Alloc h_9 (.cells #[.int .i64 0, .int .i64 0, .int .i64 0, .int .i64 0, .int .i64 0, .int .i64 0, .int .i64 0, .bool false, .slice none 0 0] 81) fun x h_10 =>
            St h_10 x (.int .i64 r5.1) fun h_11 =>
            St h_11 (x.add 1) (.int .i64 r5.2.1) fun h_12 =>
            St h_12 (x.add 2) (.int .i64 r5.2.2.1) fun h_13 =>
            St h_13 (x.add 3) (.int .i64 r5.2.2.2.1) fun h_14 =>
            St h_14 (x.add 4) (.int .i64 r5.2.2.2.2.1) fun h_15 =>
            St h_15 (x.add 5) (.int .i64 r5.2.2.2.2.2.1) fun h_16 =>
            St h_16 (x.add 6) (.int .i64 r5.2.2.2.2.2.2.1) fun h_17 =>
            St h_17 (x.add 7) (.bool r5.2.2.2.2.2.2.2.1) fun h_18 =>
            St h_18 (x.add 8) (.slice r5.2.2.2.2.2.2.2.2.1.a r5.2.2.2.2.2.2.2.2.1.n r5.2.2.2.2.2.2.2.2.1.c) fun h_19 =>
            (bif r2 == 0 then
              ToS Try.prog 22 9 r1 h_19 fun str =>
              (bif str.toList == r3.toList then
                (bif r6 == 0 then
                  Ld (.int .i64) h_19 x fun (x_Kind2 : Int) =>
                  Ld (.int .i64) h_19 (x.add 1) fun (x_From2 : Int) =>
                  Ld (.int .i64) h_19 (x.add 2) fun (x_To2 : Int) =>
                  Ld (.int .i64) h_19 (x.add 3) fun (x_Term3 : Int) =>
                  Ld (.int .i64) h_19 (x.add 4) fun (x_Index2 : Int) =>
                  Ld (.int .i64) h_19 (x.add 5) fun (x_LogTerm2 : Int) =>
                  Ld (.int .i64) h_19 (x.add 6) fun (x_Commit2 : Int) =>
                  Ld .bool h_19 (x.add 7) fun (x_Yes2 : Bool) =>
                  Ld .sl h_19 (x.add 8) fun (x_Entries2 : Sl) =>
                  Ld (.int .i64) h_19 m1 fun (x_Kind3 : Int) =>
                  Ld (.int .i64) h_19 (m1.add 1) fun (x_From3 : Int) =>
                  Ld (.int .i64) h_19 (m1.add 2) fun (x_To3 : Int) =>
                  Ld (.int .i64) h_19 (m1.add 3) fun (x_Term4 : Int) =>
                  Ld (.int .i64) h_19 (m1.add 4) fun (x_Index3 : Int) =>
                  Ld (.int .i64) h_19 (m1.add 5) fun (x_LogTerm3 : Int) =>
                  Ld (.int .i64) h_19 (m1.add 6) fun (x_Commit3 : Int) =>
                  Ld .bool h_19 (m1.add 7) fun (x_Yes3 : Bool) =>
                  Ld .sl h_19 (m1.add 8) fun (x_Entries3 : Sl) =>
                  C_ref18_Same (x_Kind2, x_From2, x_To2, x_Term3, x_Index2, x_LogTerm2, x_Commit2, x_Yes2, x_Entries2, ()) (x_Kind3, x_From3, x_To3, x_Term4, x_Index3, x_LogTerm3, x_Commit3, x_Yes3, x_Entries3, ()) h_19 fun (r7 : Bool) h_20 =>
                  R r7 h_20
                else
                  R false h_19
                )
              else
                R false h_19
              )
            else
              R false h_19
            )
          )
        )
        ) (0, ()) h_1
    )
  )
theorem E_law18_WireMessages (m : KL [.int .i64, .int .i64, .int .i64, .int .i64, .int .i64, .int .i64, .int .i64, .bool, .sl]) (h : Heap) (R : Bool → Heap → Prop) :
    VF Try.prog [(122, [(20, .one (.int .i64))]), (2036, [(2, .one .bool)])] Try.f9 [.agg ⟨KL.vals [.int .i64, .int .i64, .int .i64, .int .i64, .int .i64, .int .i64, .int .i64, .bool, .sl] m⟩] h [.one .bool] R = S_law18_WireMessages m h R := by kernel_rfl
theorem A_law18_WireMessages {m : KL [.int .i64, .int .i64, .int .i64, .int .i64, .int .i64, .int .i64, .int .i64, .bool, .sl]} {h : Heap} {R : Bool → Heap → Prop} (hs : S_law18_WireMessages m h R) : C_law18_WireMessages m h R :=
  use_ Try.func9 (by kernel_rfl) (E_law18_WireMessages m h R) hs

/-- kissinggatelaw18.fixed -/
def S_law18_fixed  (h : Heap) (R : Bool → Heap → Prop) : Prop :=
  C_wire_Reply (0, 0, (⟨#[]⟩ : ByteArray), false, ()) h fun (r : Sl) (r1 : Int) h_ =>
  C_wire_Command (2, 0, 0, 0, 0, (⟨#[107]⟩ : ByteArray), (⟨#[]⟩ : ByteArray), 0, false, ()) h_ fun (r2 : Sl) (r3 : Int) h_1 =>
  C_wire_ReadCommand r2 h_1 fun (r4 : KL [.int .i64, .int .i64, .int .i64, .int .i64, .int .i64, .str, .str, .int .i64, .bool]) (r5 : Int) h_2 =>
  Alloc h_2 (.cells #[.int .i64 0, .int .i64 0, .int .i64 0, .int .i64 0, .int .i64 0, .string (⟨#[]⟩ : ByteArray), .string (⟨#[]⟩ : ByteArray), .int .i64 0, .bool false] 56) fun d h_3 =>
  St h_3 d (.int .i64 r4.1) fun h_4 =>
  St h_4 (d.add 1) (.int .i64 r4.2.1) fun h_5 =>
  St h_5 (d.add 2) (.int .i64 r4.2.2.1) fun h_6 =>
  St h_6 (d.add 3) (.int .i64 r4.2.2.2.1) fun h_7 =>
  St h_7 (d.add 4) (.int .i64 r4.2.2.2.2.1) fun h_8 =>
  St h_8 (d.add 5) (.string r4.2.2.2.2.2.1) fun h_9 =>
  St h_9 (d.add 6) (.string r4.2.2.2.2.2.2.1) fun h_10 =>
  St h_10 (d.add 7) (.int .i64 r4.2.2.2.2.2.2.2.1) fun h_11 =>
  St h_11 (d.add 8) (.bool r4.2.2.2.2.2.2.2.2.1) fun h_12 =>
  Alloc h_12 (.cells #[] 5) fun b h_13 =>
  App Try.prog 22 22 ⟨some b, 0, 0⟩ r h_13 fun s h_14 =>
  Alloc h_14 (.cells #[.int .u8 0] 5) fun b1 h_15 =>
  App Try.prog 22 22 s ⟨some b1, 1, 1⟩ h_15 fun s1 h_16 =>
  C_wire_ReadReply s1 h_16 fun (r6 : KL [.int .i64, .int .i64, .str, .bool]) (r7 : Int) h_17 =>
  Alloc h_17 (.cells #[.int .i64 0, .int .i64 0, .string (⟨#[]⟩ : ByteArray), .bool false] 58) fun p h_18 =>
  St h_18 p (.int .i64 r6.1) fun h_19 =>
  St h_19 (p.add 1) (.int .i64 r6.2.1) fun h_20 =>
  St h_20 (p.add 2) (.string r6.2.2.1) fun h_21 =>
  St h_21 (p.add 3) (.bool r6.2.2.2.1) fun h_22 =>
  Alloc h_22 (.cells #[.int .u8 120] 5) fun b2 h_23 =>
  Frz Try.prog 22 22 ⟨some b2, 1, 1⟩ h_23 fun bs h_24 =>
  C_wire_Packet 7 bs h_24 fun (r8 : Sl) (r9 : Int) h_25 =>
  C_wire_ReadPacket r8 h_25 fun (r10 : Int) (r11 : Sl) (r12 : Int) h_26 =>
  Mk Try.prog 79 9 9 h_26 fun s2 h_27 =>
  C_wire_Message (0, 0, 0, 0, 0, 0, 0, false, s2, ()) h_27 fun (r13 : Sl) (r14 : Int) h_28 =>
  (bif (r.n : Int) == 19 then
    (bif r1 == 0 then
      (bif r3 == 0 then
        (bif r5 == 0 then
          Ld (.int .i64) h_28 d fun (Kind : Int) =>
          (bif Kind == 2 then
            Ld .str h_28 (d.add 5) fun (Key : ByteArray) =>
            (bif Key.toList == (⟨#[107]⟩ : ByteArray).toList then
              (bif r7 == 2 then
                (bif r9 == 0 then
                  (bif r10 == 7 then
                    ToS Try.prog 22 9 r11 h_28 fun str =>
                    (bif str.toList == (⟨#[120]⟩ : ByteArray).toList then
                      (bif r12 == 0 then
                        R (r14 == 4) h_28
                      else
                        R false h_28
                      )
                    else
                      R false h_28
                    )
                  else
                    R false h_28
                  )
                else
                  R false h_28
                )
              else
                R false h_28
              )
            else
              R false h_28
            )
          else
            R false h_28
          )
        else
          R false h_28
        )
      else
        R false h_28
      )
    else
      R false h_28
    )
  else
    R false h_28
  )
theorem E_law18_fixed  (h : Heap) (R : Bool → Heap → Prop) :
    VF Try.prog [] Try.f32 [] h [.one .bool] R = S_law18_fixed  h R := by kernel_rfl
theorem A_law18_fixed  {h : Heap} {R : Bool → Heap → Prop} (hs : S_law18_fixed  h R) : C_law18_fixed  h R :=
  use_ Try.func32 (by kernel_rfl) (E_law18_fixed  h R) hs

end Go.Proofs.Ytnognoiaakiepaa
