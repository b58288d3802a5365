/- Printed by a program: what each function asks of the heap, that this is the reading of its code, and what follows for a call. -/
import Derived.Test.YtmpekddpehhdnaaSC
import Derived.Test.YtmpekddpehhdnaaProg
set_option maxRecDepth 1000000
namespace Go.Proofs.Ytmpekddpehhdnaa
open Go

/-- kissinggatelaw16.StatusPlays -/
def S_law16_StatusPlays (l : Sl) (h : Heap) (R : Bool → Heap → Prop) : Prop :=
  C_law16_fixed  h fun (r : Bool) h_ =>
  (bif !r then
    R false h_
  else
    (bif decide ((l.n : Int) > 80) then
      R true h_
    else
      C_status_New  h_ fun (r1 : Option Addr) h_1 =>
      Alloc h_1 (.cells #[.slice none 0 0] 72) fun p h_2 =>
      Loop [.one (.int .i64)] (fun _ (x27 : Int) h_3 go =>
        (bif decide (x27 < (l.n : Int)) then
          Ix l x27 5 fun e =>
          Ld (.int .u8) h_3 e fun (x_Kind : Int) =>
          Ld (.int .i64) h_3 (e.add 1) fun (x_Tx : Int) =>
          Ld (.int .i64) h_3 (e.add 2) fun (x_Attempt : Int) =>
          Ld (.int .i64) h_3 (e.add 3) fun (x_Stamp : Int) =>
          Ld (.int .i64) h_3 (e.add 4) fun (x_Now : Int) =>
          Alloc h_3 (.cells #[.int .u8 0, .int .i64 0, .int .i64 0, .int .i64 0, .int .i64 0] 74) fun a h_4 =>
          St h_4 a (.int .u8 x_Kind) fun h_5 =>
          St h_5 (a.add 1) (.int .i64 x_Tx) fun h_6 =>
          St h_6 (a.add 2) (.int .i64 x_Attempt) fun h_7 =>
          St h_7 (a.add 3) (.int .i64 x_Stamp) fun h_8 =>
          St h_8 (a.add 4) (.int .i64 x_Now) fun h_9 =>
          Ld (.int .u8) h_9 a fun (x_Kind1 : Int) =>
          Ld (.int .i64) h_9 (a.add 1) fun (x_Tx1 : Int) =>
          Ld (.int .i64) h_9 (a.add 2) fun (x_Attempt1 : Int) =>
          Ld (.int .i64) h_9 (a.add 3) fun (x_Stamp1 : Int) =>
          Ld (.int .i64) h_9 (a.add 4) fun (x_Now1 : Int) =>
          C_law16_do r1 (x_Kind1, x_Tx1, x_Attempt1, x_Stamp1, x_Now1, ()) h_9 fun (r2 : Int) (r3 : Int) h_10 =>
          Ld (.int .u8) h_10 a fun (x_Kind2 : Int) =>
          Ld (.int .i64) h_10 (a.add 1) fun (x_Tx2 : Int) =>
          Ld (.int .i64) h_10 (a.add 2) fun (x_Attempt2 : Int) =>
          Ld (.int .i64) h_10 (a.add 3) fun (x_Stamp2 : Int) =>
          Ld (.int .i64) h_10 (a.add 4) fun (x_Now2 : Int) =>
          C_law16_want (some p) (x_Kind2, x_Tx2, x_Attempt2, x_Stamp2, x_Now2, ()) h_10 fun (r4 : Int) (r5 : Int) h_11 =>
          Join [.one .bool] (fun _ (x73 : Bool) h_12 =>
            (bif x73 then
              R false h_12
            else
              Ld (.int .i64) h_12 (a.add 1) fun (Tx : Int) =>
              C_status_Table_Row r1 Tx h_12 fun (r6 : KL [.int .i64, .int .i64, .int .i64, .int .i64, .int .i64]) (r7 : Bool) h_13 =>
              Alloc h_13 (.cells #[.int .i64 0, .int .i64 0, .int .i64 0, .int .i64 0, .int .i64 0] 81) fun row h_14 =>
              St h_14 row (.int .i64 r6.1) fun h_15 =>
              St h_15 (row.add 1) (.int .i64 r6.2.1) fun h_16 =>
              St h_16 (row.add 2) (.int .i64 r6.2.2.1) fun h_17 =>
              St h_17 (row.add 3) (.int .i64 r6.2.2.2.1) fun h_18 =>
              St h_18 (row.add 4) (.int .i64 r6.2.2.2.2.1) fun h_19 =>
              Alloc h_19 (.cells #[.int .i64 0, .int .i64 0, .int .i64 0, .int .i64 0, .int .i64 0] 81) fun is h_20 =>
              St h_20 is (.int .i64 0) fun h_21 =>
              St h_21 (is.add 1) (.int .i64 0) fun h_22 =>
              St h_22 (is.add 2) (.int .i64 0) fun h_23 =>
              St h_23 (is.add 3) (.int .i64 0) fun h_24 =>
              St h_24 (is.add 4) (.int .i64 0) fun h_25 =>
              C_ref16_All_Rows (some p) h_25 fun (r8 : Sl) h_26 =>
              Loop [.one .bool, .one (.int .i64)] (fun _ (some_ : Bool) (x85 : Int) h_27 go1 =>
                (bif decide (x85 < (r8.n : Int)) then
                  Ix r8 x85 5 fun e1 =>
                  Ld (.int .i64) h_27 e1 fun (x_Tx3 : Int) =>
                  Ld (.int .i64) h_27 (e1.add 1) fun (x_Attempt3 : Int) =>
                  Ld (.int .i64) h_27 (e1.add 2) fun (x_Stamp3 : Int) =>
                  Ld (.int .i64) h_27 (e1.add 3) fun (x_State : Int) =>
                  Ld (.int .i64) h_27 (e1.add 4) fun (x_Heard : Int) =>
                  Alloc h_27 (.cells #[.int .i64 0, .int .i64 0, .int .i64 0, .int .i64 0, .int .i64 0] 81) fun x h_28 =>
                  St h_28 x (.int .i64 x_Tx3) fun h_29 =>
                  St h_29 (x.add 1) (.int .i64 x_Attempt3) fun h_30 =>
                  St h_30 (x.add 2) (.int .i64 x_Stamp3) fun h_31 =>
                  St h_31 (x.add 3) (.int .i64 x_State) fun h_32 =>
                  St h_32 (x.add 4) (.int .i64 x_Heard) fun h_33 =>
                  Ld (.int .i64) h_33 x fun (Tx1 : Int) =>
                  Ld (.int .i64) h_33 (a.add 1) fun (Tx2 : Int) =>
                  (bif Tx1 == Tx2 then
                    Ld (.int .i64) h_33 x fun (x_Tx4 : Int) =>
                    Ld (.int .i64) h_33 (x.add 1) fun (x_Attempt4 : Int) =>
                    Ld (.int .i64) h_33 (x.add 2) fun (x_Stamp4 : Int) =>
                    Ld (.int .i64) h_33 (x.add 3) fun (x_State1 : Int) =>
                    Ld (.int .i64) h_33 (x.add 4) fun (x_Heard1 : Int) =>
                    St h_33 is (.int .i64 x_Tx4) fun h_34 =>
                    St h_34 (is.add 1) (.int .i64 x_Attempt4) fun h_35 =>
                    St h_35 (is.add 2) (.int .i64 x_Stamp4) fun h_36 =>
                    St h_36 (is.add 3) (.int .i64 x_State1) fun h_37 =>
                    St h_37 (is.add 4) (.int .i64 x_Heard1) fun h_38 =>
                    go1 true (IntKind.i64.wrap (x85 + 1)) h_38
                  else
                    go1 some_ (IntKind.i64.wrap (x85 + 1)) h_33
                  )
                else
                  (bif !(r7 == some_) then
                    R false h_27
                  else
                    Ld (.int .i64) h_27 row fun (x_Tx5 : Int) =>
                    Ld (.int .i64) h_27 (row.add 1) fun (x_Attempt5 : Int) =>
                    Ld (.int .i64) h_27 (row.add 2) fun (x_Stamp5 : Int) =>
                    Ld (.int .i64) h_27 (row.add 3) fun (x_State2 : Int) =>
                    Ld (.int .i64) h_27 (row.add 4) fun (x_Heard2 : Int) =>
                    Ld (.int .i64) h_27 is fun (x_Tx6 : Int) =>
                    Ld (.int .i64) h_27 (is.add 1) fun (x_Attempt6 : Int) =>
                    Ld (.int .i64) h_27 (is.add 2) fun (x_Stamp6 : Int) =>
                    Ld (.int .i64) h_27 (is.add 3) fun (x_State3 : Int) =>
                    Ld (.int .i64) h_27 (is.add 4) fun (x_Heard3 : Int) =>
                    OpV Try.prog (do eqGuard .neq 81 (.tmp 100) (.tmp 101) (.agg #[.int .i64 x_Tx5, .int .i64 x_Attempt5, .int .i64 x_Stamp5, .int .i64 x_State2, .int .i64 x_Heard2]) (.agg #[.int .i64 x_Tx6, .int .i64 x_Attempt6, .int .i64 x_Stamp6, .int .i64 x_State3, .int .i64 x_Heard3]); binOp .neq 81 (.agg #[.int .i64 x_Tx5, .int .i64 x_Attempt5, .int .i64 x_Stamp5, .int .i64 x_State2, .int .i64 x_Heard2]) (.agg #[.int .i64 x_Tx6, .int .i64 x_Attempt6, .int .i64 x_Stamp6, .int .i64 x_State3, .int .i64 x_Heard3])) h_27 [.one .bool] fun (q : Bool) =>
                    (bif q then
                      R false h_27
                    else
                      go (IntKind.i64.wrap (x27 + 1)) h_27
                    )
                  )
                )
                ) (false, 0, ()) h_26
            )
            ) fun J =>
          (bif r2 != r4 then
            J true h_11
          else
            (bif r3 != r5 then
              J true h_11
            else
              Ld (.int .i64) h_11 (a.add 1) fun (Tx3 : Int) =>
              Ld (.int .i64) h_11 (a.add 2) fun (Attempt : Int) =>
              Ld (.int .i64) h_11 (a.add 1) fun (Tx4 : Int) =>
              Ld (.int .i64) h_11 (a.add 2) fun (Attempt1 : Int) =>
              C_status_Table_State r1 Tx3 Attempt h_11 fun (r9 : Int) h_39 =>
              (Ld (.int .i64) h_39 (a.add 1) fun (Tx5 : Int) => (.int .i64 Tx5 : Value) = .int .i64 Tx4) ∧
              (Ld (.int .i64) h_39 (a.add 2) fun (Attempt2 : Int) => (.int .i64 Attempt2 : Value) = .int .i64 Attempt1) ∧
              C_ref16_All_State (some p) Tx4 Attempt1 h_39 fun (r10 : Int) h_40 =>
              (bif r9 != r10 then
                J true h_40
              else
                C_status_Table_Rows r1 h_40 fun (r11 : Sl) h_41 =>
                C_ref16_All_Rows (some p) h_41 fun (r12 : Sl) h_42 =>
                C_law16_same r11 r12 h_42 fun (r13 : Bool) h_43 =>
                J (!r13) h_43
              )
            )
          )
        else
          R true h_3
        )
        ) (0, ()) h_2
    )
  )
theorem E_law16_StatusPlays (l : Sl) (h : Heap) (R : Bool → Heap → Prop) :
    VF Try.prog [(250, [(27, .one (.int .i64))]), (256412, [(73, .one .bool)]), (8205306, [(14, .one .bool), (85, .one (.int .i64))])] Try.f8 [.slice l.a l.n l.c] h [.one .bool] R = S_law16_StatusPlays l h R := by kernel_rfl
theorem A_law16_StatusPlays {l : Sl} {h : Heap} {R : Bool → Heap → Prop} (hs : S_law16_StatusPlays l h R) : C_law16_StatusPlays l h R :=
  use_ Try.func8 (by kernel_rfl) (E_law16_StatusPlays l h R) hs

/-- kissinggatelaw16.StatusOnce -/
def S_law16_StatusOnce (l : Sl) (h : Heap) (R : Bool → Heap → Prop) : Prop :=
  C_law16_fixed  h fun (r : Bool) h_ =>
  (bif !r then
    R false h_
  else
    (bif decide ((l.n : Int) > 80) then
      R true h_
    else
      C_status_New  h_ fun (r1 : Option Addr) h_1 =>
      OpT Try.prog (Instr.makeMap 85 none) h_1 [.one .map] fun m h_2 =>
      OpT Try.prog (Instr.makeMap 86 none) h_2 [.one .map] fun m1 h_3 =>
      Loop [.one (.int .i64)] (fun _ (x26 : Int) h_4 go =>
        (bif decide (x26 < (l.n : Int)) then
          Ix l x26 5 fun e =>
          Ld (.int .u8) h_4 e fun (x_Kind : Int) =>
          Ld (.int .i64) h_4 (e.add 1) fun (x_Tx : Int) =>
          Ld (.int .i64) h_4 (e.add 2) fun (x_Attempt : Int) =>
          Ld (.int .i64) h_4 (e.add 3) fun (x_Stamp : Int) =>
          Ld (.int .i64) h_4 (e.add 4) fun (x_Now : Int) =>
          Alloc h_4 (.cells #[.int .u8 0, .int .i64 0, .int .i64 0, .int .i64 0, .int .i64 0] 74) fun a h_5 =>
          St h_5 a (.int .u8 x_Kind) fun h_6 =>
          St h_6 (a.add 1) (.int .i64 x_Tx) fun h_7 =>
          St h_7 (a.add 2) (.int .i64 x_Attempt) fun h_8 =>
          St h_8 (a.add 3) (.int .i64 x_Stamp) fun h_9 =>
          St h_9 (a.add 4) (.int .i64 x_Now) fun h_10 =>
          Ld (.int .u8) h_10 a fun (x_Kind1 : Int) =>
          Ld (.int .i64) h_10 (a.add 1) fun (x_Tx1 : Int) =>
          Ld (.int .i64) h_10 (a.add 2) fun (x_Attempt1 : Int) =>
          Ld (.int .i64) h_10 (a.add 3) fun (x_Stamp1 : Int) =>
          Ld (.int .i64) h_10 (a.add 4) fun (x_Now1 : Int) =>
          C_law16_do r1 (x_Kind1, x_Tx1, x_Attempt1, x_Stamp1, x_Now1, ()) h_10 fun (r2 : Int) (r3 : Int) h_11 =>
          (bif r3 != 0 then
            (bif r2 != 0 then
              R false h_11
            else
              go (IntKind.i64.wrap (x26 + 1)) h_11
            )
          else
            Ld (.int .i64) h_11 (a.add 1) fun (Tx : Int) =>
            Ld (.int .i64) h_11 (a.add 2) fun (Attempt : Int) =>
            Alloc h_11 (.cells #[.int .i64 0, .int .i64 0] 88) fun k h_12 =>
            St h_12 k (.int .i64 Tx) fun h_13 =>
            St h_13 (k.add 1) (.int .i64 Attempt) fun h_14 =>
            Join [.one .bool] (fun _ (x63 : Bool) h_15 =>
              (bif x63 then
                R false h_15
              else
                Ld (.int .i64) h_15 k fun (x_tx : Int) =>
                Ld (.int .i64) h_15 (k.add 1) fun (x_n : Int) =>
                OpU (P := Try.prog) (Instr.mapUpdate 85 (.map m) (.agg #[.int .i64 x_tx, .int .i64 x_n]) (.int .i64 r2)) h_15 fun h_16 =>
                Ld (.int .i64) h_16 (a.add 1) fun (Tx1 : Int) =>
                OpV Try.prog (Instr.lookup 86 (.map m1) (.int .i64 Tx1) true) h_16 [.one (.int .i64), .one .bool] fun (x : Int) (ok : Bool) =>
                (bif r2 == 2 then
                  (bif ok then
                    Ld (.int .i64) h_16 (a.add 2) fun (Attempt1 : Int) =>
                    (bif x != Attempt1 then
                      R false h_16
                    else
                      Ld (.int .i64) h_16 (a.add 1) fun (Tx2 : Int) =>
                      Ld (.int .i64) h_16 (a.add 2) fun (Attempt2 : Int) =>
                      OpU (P := Try.prog) (Instr.mapUpdate 86 (.map m1) (.int .i64 Tx2) (.int .i64 Attempt2)) h_16 fun h_17 =>
                      go (IntKind.i64.wrap (x26 + 1)) h_17
                    )
                  else
                    Ld (.int .i64) h_16 (a.add 1) fun (Tx3 : Int) =>
                    Ld (.int .i64) h_16 (a.add 2) fun (Attempt3 : Int) =>
                    OpU (P := Try.prog) (Instr.mapUpdate 86 (.map m1) (.int .i64 Tx3) (.int .i64 Attempt3)) h_16 fun h_18 =>
                    go (IntKind.i64.wrap (x26 + 1)) h_18
                  )
                else
                  (bif ok then
                    Ld (.int .i64) h_16 (a.add 2) fun (Attempt4 : Int) =>
                    (bif decide (x ≤ Attempt4) then
                      R false h_16
                    else
                      go (IntKind.i64.wrap (x26 + 1)) h_16
                    )
                  else
                    go (IntKind.i64.wrap (x26 + 1)) h_16
                  )
                )
              )
              ) fun J =>
            Ld (.int .i64) h_14 k fun (x_tx1 : Int) =>
            Ld (.int .i64) h_14 (k.add 1) fun (x_n1 : Int) =>
            OpV Try.prog (Instr.lookup 85 (.map m) (.agg #[.int .i64 x_tx1, .int .i64 x_n1]) false) h_14 [.one (.int .i64)] fun (x1 : Int) =>
            (bif decide (x1 ≥ 2) then
              Ld (.int .i64) h_14 k fun (x_tx2 : Int) =>
              Ld (.int .i64) h_14 (k.add 1) fun (x_n2 : Int) =>
              OpV Try.prog (Instr.lookup 85 (.map m) (.agg #[.int .i64 x_tx2, .int .i64 x_n2]) false) h_14 [.one (.int .i64)] fun (x2 : Int) =>
              (bif x2 != r2 then
                J true h_14
              else
                (bif decide (r2 < 1) then
                  J true h_14
                else
                  J (decide (r2 > 3)) h_14
                )
              )
            else
              (bif decide (r2 < 1) then
                J true h_14
              else
                J (decide (r2 > 3)) h_14
              )
            )
          )
        else
          Loop [.one (.int .i64)] (fun _ (x98 : Int) h_19 go1 =>
            (bif decide (x98 < (l.n : Int)) then
              Ix l x98 5 fun e1 =>
              Ld (.int .u8) h_19 e1 fun (x_Kind2 : Int) =>
              Ld (.int .i64) h_19 (e1.add 1) fun (x_Tx2 : Int) =>
              Ld (.int .i64) h_19 (e1.add 2) fun (x_Attempt2 : Int) =>
              Ld (.int .i64) h_19 (e1.add 3) fun (x_Stamp2 : Int) =>
              Ld (.int .i64) h_19 (e1.add 4) fun (x_Now2 : Int) =>
              Alloc h_19 (.cells #[.int .u8 0, .int .i64 0, .int .i64 0, .int .i64 0, .int .i64 0] 74) fun a1 h_20 =>
              St h_20 a1 (.int .u8 x_Kind2) fun h_21 =>
              St h_21 (a1.add 1) (.int .i64 x_Tx2) fun h_22 =>
              St h_22 (a1.add 2) (.int .i64 x_Attempt2) fun h_23 =>
              St h_23 (a1.add 3) (.int .i64 x_Stamp2) fun h_24 =>
              St h_24 (a1.add 4) (.int .i64 x_Now2) fun h_25 =>
              Ld (.int .i64) h_25 (a1.add 1) fun (Tx4 : Int) =>
              Ld (.int .i64) h_25 (a1.add 2) fun (Attempt5 : Int) =>
              Alloc h_25 (.cells #[.int .i64 0, .int .i64 0] 88) fun k1 h_26 =>
              St h_26 k1 (.int .i64 Tx4) fun h_27 =>
              St h_27 (k1.add 1) (.int .i64 Attempt5) fun h_28 =>
              Ld (.int .i64) h_28 k1 fun (x_tx3 : Int) =>
              Ld (.int .i64) h_28 (k1.add 1) fun (x_n3 : Int) =>
              OpV Try.prog (Instr.lookup 85 (.map m) (.agg #[.int .i64 x_tx3, .int .i64 x_n3]) false) h_28 [.one (.int .i64)] fun (x3 : Int) =>
              (bif decide (x3 ≥ 2) then
                Ld (.int .i64) h_28 (a1.add 1) fun (Tx5 : Int) =>
                Ld (.int .i64) h_28 (a1.add 2) fun (Attempt6 : Int) =>
                Ld (.int .i64) h_28 k1 fun (x_tx4 : Int) =>
                Ld (.int .i64) h_28 (k1.add 1) fun (x_n4 : Int) =>
                OpV Try.prog (Instr.lookup 85 (.map m) (.agg #[.int .i64 x_tx4, .int .i64 x_n4]) false) h_28 [.one (.int .i64)] fun (x4 : Int) =>
                C_status_Table_State r1 Tx5 Attempt6 h_28 fun (r4 : Int) h_29 =>
                (Ld (.int .i64) h_29 k1 fun (x_tx5 : Int) => Ld (.int .i64) h_29 (k1.add 1) fun (x_n5 : Int) => (.agg #[.int .i64 x_tx5, .int .i64 x_n5] : Value) = .agg #[.int .i64 x_tx4, .int .i64 x_n4]) ∧
                (OpV Try.prog (Instr.lookup 85 (.map m) (.agg #[.int .i64 x_tx4, .int .i64 x_n4]) false) h_29 [.one (.int .i64)] fun (x5 : Int) => (.int .i64 x5 : Value) = .int .i64 x4) ∧
                (bif r4 != x4 then
                  R false h_29
                else
                  go1 (IntKind.i64.wrap (x98 + 1)) h_29
                )
              else
                go1 (IntKind.i64.wrap (x98 + 1)) h_28
              )
            else
              R true h_19
            )
            ) (0, ()) h_4
        )
        ) (0, ()) h_3
    )
  )
theorem E_law16_StatusOnce (l : Sl) (h : Heap) (R : Bool → Heap → Prop) :
    VF Try.prog [(1018, [(26, .one (.int .i64))]), (2085692, [(63, .one .bool)]), (2042, [(98, .one (.int .i64))])] Try.f9 [.slice l.a l.n l.c] h [.one .bool] R = S_law16_StatusOnce l h R := by kernel_rfl
theorem A_law16_StatusOnce {l : Sl} {h : Heap} {R : Bool → Heap → Prop} (hs : S_law16_StatusOnce l h R) : C_law16_StatusOnce l h R :=
  use_ Try.func9 (by kernel_rfl) (E_law16_StatusOnce l h R) hs

/-- kissinggatelaw16.StatusFrom -/
def S_law16_StatusFrom (l : Sl) (more : Sl) (raw : Sl) (h : Heap) (R : Bool → Heap → Prop) : Prop :=
  C_law16_fixed  h fun (r : Bool) h_ =>
  (bif !r then
    R false h_
  else
    Join [.one .bool] (fun _ (x37 : Bool) h_1 =>
      (bif x37 then
        R true h_1
      else
        C_status_New  h_1 fun (r1 : Option Addr) h_2 =>
        Loop [.one (.int .i64)] (fun _ (x41 : Int) h_3 go =>
          (bif decide (x41 < (l.n : Int)) then
            Ix l x41 5 fun e =>
            Ld (.int .u8) h_3 e fun (x_Kind : Int) =>
            Ld (.int .i64) h_3 (e.add 1) fun (x_Tx : Int) =>
            Ld (.int .i64) h_3 (e.add 2) fun (x_Attempt : Int) =>
            Ld (.int .i64) h_3 (e.add 3) fun (x_Stamp : Int) =>
            Ld (.int .i64) h_3 (e.add 4) fun (x_Now : Int) =>
            Alloc h_3 (.cells #[.int .u8 0, .int .i64 0, .int .i64 0, .int .i64 0, .int .i64 0] 74) fun a h_4 =>
            St h_4 a (.int .u8 x_Kind) fun h_5 =>
            St h_5 (a.add 1) (.int .i64 x_Tx) fun h_6 =>
            St h_6 (a.add 2) (.int .i64 x_Attempt) fun h_7 =>
            St h_7 (a.add 3) (.int .i64 x_Stamp) fun h_8 =>
            St h_8 (a.add 4) (.int .i64 x_Now) fun h_9 =>
            Ld (.int .u8) h_9 a fun (x_Kind1 : Int) =>
            Ld (.int .i64) h_9 (a.add 1) fun (x_Tx1 : Int) =>
            Ld (.int .i64) h_9 (a.add 2) fun (x_Attempt1 : Int) =>
            Ld (.int .i64) h_9 (a.add 3) fun (x_Stamp1 : Int) =>
            Ld (.int .i64) h_9 (a.add 4) fun (x_Now1 : Int) =>
            C_law16_do r1 (x_Kind1, x_Tx1, x_Attempt1, x_Stamp1, x_Now1, ()) h_9 fun (r2 : Int) (r3 : Int) h_10 =>
            go (IntKind.i64.wrap (x41 + 1)) h_10
          else
            C_status_Table_Rows r1 h_3 fun (r4 : Sl) h_11 =>
            C_status_From r4 h_11 fun (r5 : Option Addr) (r6 : Int) h_12 =>
            (bif r6 != 0 then
              R false h_12
            else
              Loop [.one (.int .i64)] (fun _ (x59 : Int) h_13 go1 =>
                (bif decide (x59 < (more.n : Int)) then
                  Ix more x59 5 fun e1 =>
                  Ld (.int .u8) h_13 e1 fun (x_Kind2 : Int) =>
                  Ld (.int .i64) h_13 (e1.add 1) fun (x_Tx2 : Int) =>
                  Ld (.int .i64) h_13 (e1.add 2) fun (x_Attempt2 : Int) =>
                  Ld (.int .i64) h_13 (e1.add 3) fun (x_Stamp2 : Int) =>
                  Ld (.int .i64) h_13 (e1.add 4) fun (x_Now2 : Int) =>
                  Alloc h_13 (.cells #[.int .u8 0, .int .i64 0, .int .i64 0, .int .i64 0, .int .i64 0] 74) fun a1 h_14 =>
                  St h_14 a1 (.int .u8 x_Kind2) fun h_15 =>
                  St h_15 (a1.add 1) (.int .i64 x_Tx2) fun h_16 =>
                  St h_16 (a1.add 2) (.int .i64 x_Attempt2) fun h_17 =>
                  St h_17 (a1.add 3) (.int .i64 x_Stamp2) fun h_18 =>
                  St h_18 (a1.add 4) (.int .i64 x_Now2) fun h_19 =>
                  Ld (.int .u8) h_19 a1 fun (x_Kind3 : Int) =>
                  Ld (.int .i64) h_19 (a1.add 1) fun (x_Tx3 : Int) =>
                  Ld (.int .i64) h_19 (a1.add 2) fun (x_Attempt3 : Int) =>
                  Ld (.int .i64) h_19 (a1.add 3) fun (x_Stamp3 : Int) =>
                  Ld (.int .i64) h_19 (a1.add 4) fun (x_Now3 : Int) =>
                  C_law16_do r1 (x_Kind3, x_Tx3, x_Attempt3, x_Stamp3, x_Now3, ()) h_19 fun (r7 : Int) (r8 : Int) h_20 =>
                  Ld (.int .u8) h_20 a1 fun (x_Kind4 : Int) =>
                  Ld (.int .i64) h_20 (a1.add 1) fun (x_Tx4 : Int) =>
                  Ld (.int .i64) h_20 (a1.add 2) fun (x_Attempt4 : Int) =>
                  Ld (.int .i64) h_20 (a1.add 3) fun (x_Stamp4 : Int) =>
                  Ld (.int .i64) h_20 (a1.add 4) fun (x_Now4 : Int) =>
                  C_law16_do r5 (x_Kind4, x_Tx4, x_Attempt4, x_Stamp4, x_Now4, ()) h_20 fun (r9 : Int) (r10 : Int) h_21 =>
                  (bif r7 != r9 then
                    R false h_21
                  else
                    (bif r8 != r10 then
                      R false h_21
                    else
                      go1 (IntKind.i64.wrap (x59 + 1)) h_21
                    )
                  )
                else
                  C_status_From raw h_13 fun (r11 : Option Addr) (r12 : Int) h_22 =>
                  Loop [.one .bool, .one (.int .i64)] (fun _ (right_ : Bool) (x91 : Int) h_23 go2 =>
                    (bif decide (x91 < (raw.n : Int)) then
                      Ix raw x91 5 fun e2 =>
                      Ld (.int .i64) h_23 e2 fun (x_Tx5 : Int) =>
                      Ld (.int .i64) h_23 (e2.add 1) fun (x_Attempt5 : Int) =>
                      Ld (.int .i64) h_23 (e2.add 2) fun (x_Stamp5 : Int) =>
                      Ld (.int .i64) h_23 (e2.add 3) fun (x_State : Int) =>
                      Ld (.int .i64) h_23 (e2.add 4) fun (x_Heard : Int) =>
                      Alloc h_23 (.cells #[.int .i64 0, .int .i64 0, .int .i64 0, .int .i64 0, .int .i64 0] 81) fun r13 h_24 =>
                      St h_24 r13 (.int .i64 x_Tx5) fun h_25 =>
                      St h_25 (r13.add 1) (.int .i64 x_Attempt5) fun h_26 =>
                      St h_26 (r13.add 2) (.int .i64 x_Stamp5) fun h_27 =>
                      St h_27 (r13.add 3) (.int .i64 x_State) fun h_28 =>
                      St h_28 (r13.add 4) (.int .i64 x_Heard) fun h_29 =>
                      (bif right_ then
                        Ld (.int .i64) h_29 r13 fun (Tx : Int) =>
                        (bif decide (Tx ≥ 0) then
                          Ld (.int .i64) h_29 r13 fun (Tx1 : Int) =>
                          (bif decide (Tx1 ≤ 1048576) then
                            Ld (.int .i64) h_29 (r13.add 1) fun (Attempt : Int) =>
                            (bif decide (Attempt ≥ 0) then
                              Ld (.int .i64) h_29 (r13.add 1) fun (Attempt1 : Int) =>
                              (bif decide (Attempt1 ≤ 1048576) then
                                Ld (.int .i64) h_29 (r13.add 2) fun (Stamp : Int) =>
                                (bif decide (Stamp ≥ 0) then
                                  Ld (.int .i64) h_29 (r13.add 2) fun (Stamp1 : Int) =>
                                  (bif decide (Stamp1 ≤ 1099511627776) then
                                    Ld (.int .i64) h_29 (r13.add 3) fun (State : Int) =>
                                    (bif decide (State ≥ 1) then
                                      Ld (.int .i64) h_29 (r13.add 3) fun (State1 : Int) =>
                                      (bif decide (State1 ≤ 3) then
                                        Ld (.int .i64) h_29 (r13.add 4) fun (Heard : Int) =>
                                        (bif decide (Heard ≥ 0) then
                                          Ld (.int .i64) h_29 (r13.add 4) fun (Heard1 : Int) =>
                                          (bif decide (Heard1 ≤ 1099511627776) then
                                            (bif x91 == 0 then
                                              go2 true (IntKind.i64.wrap (x91 + 1)) h_29
                                            else
                                              Ix raw (IntKind.i64.wrap (x91 - 1)) 5 fun e3 =>
                                              Ld (.int .i64) h_29 e3 fun (Tx2 : Int) =>
                                              Ld (.int .i64) h_29 r13 fun (Tx3 : Int) =>
                                              Let (decide (Tx2 < Tx3) : Bool) fun right_1 =>
                                              go2 right_1 (IntKind.i64.wrap (x91 + 1)) h_29
                                            )
                                          else
                                            go2 false (IntKind.i64.wrap (x91 + 1)) h_29
                                          )
                                        else
                                          go2 false (IntKind.i64.wrap (x91 + 1)) h_29
                                        )
                                      else
                                        go2 false (IntKind.i64.wrap (x91 + 1)) h_29
                                      )
                                    else
                                      go2 false (IntKind.i64.wrap (x91 + 1)) h_29
                                    )
                                  else
                                    go2 false (IntKind.i64.wrap (x91 + 1)) h_29
                                  )
                                else
                                  go2 false (IntKind.i64.wrap (x91 + 1)) h_29
                                )
                              else
                                go2 false (IntKind.i64.wrap (x91 + 1)) h_29
                              )
                            else
                              go2 false (IntKind.i64.wrap (x91 + 1)) h_29
                            )
                          else
                            go2 false (IntKind.i64.wrap (x91 + 1)) h_29
                          )
                        else
                          go2 false (IntKind.i64.wrap (x91 + 1)) h_29
                        )
                      else
                        go2 false (IntKind.i64.wrap (x91 + 1)) h_29
                      )
                    else
                      (bif !right_ then
                        Join [.one .bool] (fun _ (x6 : Bool) h_30 =>
                          R x6 h_30
                          ) fun J1 =>
                        (bif r12 == 2 then
                          (bif r11.isNone then
                            C_status_Table_Rows r1 h_23 fun (r14 : Sl) h_31 =>
                            C_status_Table_Rows r5 h_31 fun (r15 : Sl) h_32 =>
                            C_law16_same r14 r15 h_32 fun (r16 : Bool) h_33 =>
                            J1 r16 h_33
                          else
                            J1 false h_23
                          )
                        else
                          J1 false h_23
                        )
                      else
                        (bif r12 == 0 then
                          C_status_Table_Rows r11 h_23 fun (r17 : Sl) h_34 =>
                          C_law16_same r17 raw h_34 fun (r18 : Bool) h_35 =>
                          (bif r18 then
                            C_status_Table_Rows r1 h_35 fun (r19 : Sl) h_36 =>
                            C_status_Table_Rows r5 h_36 fun (r20 : Sl) h_37 =>
                            C_law16_same r19 r20 h_37 fun (r21 : Bool) h_38 =>
                            R r21 h_38
                          else
                            R false h_35
                          )
                        else
                          R false h_23
                        )
                      )
                    )
                    ) (true, 0, ()) h_22
                )
                ) (0, ()) h_12
            )
          )
          ) (0, ()) h_2
      )
      ) fun J =>
    (bif decide ((l.n : Int) > 60) then
      J true h_
    else
      (bif decide ((more.n : Int) > 60) then
        J true h_
      else
        J (decide ((raw.n : Int) > 60)) h_
      )
    )
  )
theorem E_law16_StatusFrom (l : Sl) (more : Sl) (raw : Sl) (h : Heap) (R : Bool → Heap → Prop) :
    VF Try.prog [(28, [(37, .one .bool)]), (250, [(41, .one (.int .i64))]), (2042, [(59, .one (.int .i64))]), (16378, [(20, .one .bool), (91, .one (.int .i64))]), (65524, [(6, .one .bool)])] Try.f13 [.slice l.a l.n l.c, .slice more.a more.n more.c, .slice raw.a raw.n raw.c] h [.one .bool] R = S_law16_StatusFrom l more raw h R := by kernel_rfl
theorem A_law16_StatusFrom {l : Sl} {more : Sl} {raw : Sl} {h : Heap} {R : Bool → Heap → Prop} (hs : S_law16_StatusFrom l more raw h R) : C_law16_StatusFrom l more raw h R :=
  use_ Try.func13 (by kernel_rfl) (E_law16_StatusFrom l more raw h R) hs

/-- kissinggatelaw16.StatusStamp -/
def S_law16_StatusStamp (l : Sl) (now : Int) (wait : Int) (h : Heap) (R : Bool → Heap → Prop) : Prop :=
  C_law16_fixed  h fun (r : Bool) h_ =>
  (bif !r then
    R false h_
  else
    (bif decide ((l.n : Int) > 80) then
      R true h_
    else
      C_status_New  h_ fun (r1 : Option Addr) h_1 =>
      OpT Try.prog (Instr.makeMap 86 none) h_1 [.one .map] fun m h_2 =>
      Loop [.one (.int .i64)] (fun _ (x28 : Int) h_3 go =>
        (bif decide (x28 < (l.n : Int)) then
          Ix l x28 5 fun e =>
          Ld (.int .u8) h_3 e fun (x_Kind : Int) =>
          Ld (.int .i64) h_3 (e.add 1) fun (x_Tx : Int) =>
          Ld (.int .i64) h_3 (e.add 2) fun (x_Attempt : Int) =>
          Ld (.int .i64) h_3 (e.add 3) fun (x_Stamp : Int) =>
          Ld (.int .i64) h_3 (e.add 4) fun (x_Now : Int) =>
          Alloc h_3 (.cells #[.int .u8 0, .int .i64 0, .int .i64 0, .int .i64 0, .int .i64 0] 74) fun a h_4 =>
          St h_4 a (.int .u8 x_Kind) fun h_5 =>
          St h_5 (a.add 1) (.int .i64 x_Tx) fun h_6 =>
          St h_6 (a.add 2) (.int .i64 x_Attempt) fun h_7 =>
          St h_7 (a.add 3) (.int .i64 x_Stamp) fun h_8 =>
          St h_8 (a.add 4) (.int .i64 x_Now) fun h_9 =>
          Ld (.int .u8) h_9 a fun (x_Kind1 : Int) =>
          Ld (.int .i64) h_9 (a.add 1) fun (x_Tx1 : Int) =>
          Ld (.int .i64) h_9 (a.add 2) fun (x_Attempt1 : Int) =>
          Ld (.int .i64) h_9 (a.add 3) fun (x_Stamp1 : Int) =>
          Ld (.int .i64) h_9 (a.add 4) fun (x_Now1 : Int) =>
          C_law16_do r1 (x_Kind1, x_Tx1, x_Attempt1, x_Stamp1, x_Now1, ()) h_9 fun (r2 : Int) (r3 : Int) h_10 =>
          Join [.one .bool] (fun _ (x56 : Bool) h_11 =>
            Join [] (fun _ h_12 =>
              Ld (.int .i64) h_12 (a.add 1) fun (Tx : Int) =>
              C_status_Table_Row r1 Tx h_12 fun (r4 : KL [.int .i64, .int .i64, .int .i64, .int .i64, .int .i64]) (r5 : Bool) h_13 =>
              Alloc h_13 (.cells #[.int .i64 0, .int .i64 0, .int .i64 0, .int .i64 0, .int .i64 0] 81) fun r6 h_14 =>
              St h_14 r6 (.int .i64 r4.1) fun h_15 =>
              St h_15 (r6.add 1) (.int .i64 r4.2.1) fun h_16 =>
              St h_16 (r6.add 2) (.int .i64 r4.2.2.1) fun h_17 =>
              St h_17 (r6.add 3) (.int .i64 r4.2.2.2.1) fun h_18 =>
              St h_18 (r6.add 4) (.int .i64 r4.2.2.2.2.1) fun h_19 =>
              (bif r5 then
                Ld (.int .i64) h_19 (r6.add 2) fun (Stamp : Int) =>
                Ld (.int .i64) h_19 (a.add 1) fun (Tx1 : Int) =>
                OpV Try.prog (Instr.lookup 86 (.map m) (.int .i64 Tx1) false) h_19 [.one (.int .i64)] fun (x : Int) =>
                (bif Stamp != x then
                  R false h_19
                else
                  go (IntKind.i64.wrap (x28 + 1)) h_19
                )
              else
                go (IntKind.i64.wrap (x28 + 1)) h_19
              )
              ) fun J1 =>
            (bif x56 then
              Ld (.int .i64) h_11 (a.add 1) fun (Tx2 : Int) =>
              Ld (.int .i64) h_11 (a.add 3) fun (Stamp1 : Int) =>
              OpU (P := Try.prog) (Instr.mapUpdate 86 (.map m) (.int .i64 Tx2) (.int .i64 Stamp1)) h_11 fun h_20 =>
              J1  h_20
            else
              J1  h_11
            )
            ) fun J =>
          Ld (.int .u8) h_10 a fun (Kind : Int) =>
          Nz 4 (
          (bif (divV .rem .u8 Kind 4) == 0 then
            (bif r3 == 0 then
              Ld (.int .i64) h_10 (a.add 1) fun (Tx3 : Int) =>
              OpV Try.prog (Instr.lookup 86 (.map m) (.int .i64 Tx3) false) h_10 [.one (.int .i64)] fun (x1 : Int) =>
              (bif x1 == 0 then
                J (r2 == 1) h_10
              else
                J false h_10
              )
            else
              J false h_10
            )
          else
            J false h_10
          )
          )
        else
          C_status_Table_Silent r1 now wait h_3 fun (r7 : Sl) h_21 =>
          Join [.one .bool] (fun _ (x97 : Bool) h_22 =>
            (bif x97 then
              R ((r7.n : Int) == 0) h_22
            else
              C_status_Table_Rows r1 h_22 fun (r8 : Sl) h_23 =>
              Loop [.one (.int .i64), .one (.int .i64)] (fun _ (i : Int) (x104 : Int) h_24 go1 =>
                (bif decide (x104 < (r8.n : Int)) then
                  Ix r8 x104 5 fun e1 =>
                  Ld (.int .i64) h_24 e1 fun (x_Tx2 : Int) =>
                  Ld (.int .i64) h_24 (e1.add 1) fun (x_Attempt2 : Int) =>
                  Ld (.int .i64) h_24 (e1.add 2) fun (x_Stamp2 : Int) =>
                  Ld (.int .i64) h_24 (e1.add 3) fun (x_State : Int) =>
                  Ld (.int .i64) h_24 (e1.add 4) fun (x_Heard : Int) =>
                  Alloc h_24 (.cells #[.int .i64 0, .int .i64 0, .int .i64 0, .int .i64 0, .int .i64 0] 81) fun r9 h_25 =>
                  St h_25 r9 (.int .i64 x_Tx2) fun h_26 =>
                  St h_26 (r9.add 1) (.int .i64 x_Attempt2) fun h_27 =>
                  St h_27 (r9.add 2) (.int .i64 x_Stamp2) fun h_28 =>
                  St h_28 (r9.add 3) (.int .i64 x_State) fun h_29 =>
                  St h_29 (r9.add 4) (.int .i64 x_Heard) fun h_30 =>
                  Join [.one .bool] (fun _ (x118 : Bool) h_31 =>
                    (bif x118 then
                      (bif decide (i ≥ (r7.n : Int)) then
                        R false h_31
                      else
                        Ix r7 i 5 fun e2 =>
                        Ld (.int .i64) h_31 e2 fun (x_Tx3 : Int) =>
                        Ld (.int .i64) h_31 (e2.add 1) fun (x_Attempt3 : Int) =>
                        Ld (.int .i64) h_31 (e2.add 2) fun (x_Stamp3 : Int) =>
                        Ld (.int .i64) h_31 (e2.add 3) fun (x_State1 : Int) =>
                        Ld (.int .i64) h_31 (e2.add 4) fun (x_Heard1 : Int) =>
                        Ld (.int .i64) h_31 r9 fun (x_Tx4 : Int) =>
                        Ld (.int .i64) h_31 (r9.add 1) fun (x_Attempt4 : Int) =>
                        Ld (.int .i64) h_31 (r9.add 2) fun (x_Stamp4 : Int) =>
                        Ld (.int .i64) h_31 (r9.add 3) fun (x_State2 : Int) =>
                        Ld (.int .i64) h_31 (r9.add 4) fun (x_Heard2 : Int) =>
                        OpV Try.prog (do eqGuard .neq 81 (.tmp 127) (.tmp 128) (.agg #[.int .i64 x_Tx3, .int .i64 x_Attempt3, .int .i64 x_Stamp3, .int .i64 x_State1, .int .i64 x_Heard1]) (.agg #[.int .i64 x_Tx4, .int .i64 x_Attempt4, .int .i64 x_Stamp4, .int .i64 x_State2, .int .i64 x_Heard2]); binOp .neq 81 (.agg #[.int .i64 x_Tx3, .int .i64 x_Attempt3, .int .i64 x_Stamp3, .int .i64 x_State1, .int .i64 x_Heard1]) (.agg #[.int .i64 x_Tx4, .int .i64 x_Attempt4, .int .i64 x_Stamp4, .int .i64 x_State2, .int .i64 x_Heard2])) h_31 [.one .bool] fun (q : Bool) =>
                        (bif q then
                          R false h_31
                        else
                          Let (IntKind.i64.wrap (i + 1) : Int) fun i1 =>
                          go1 i1 (IntKind.i64.wrap (x104 + 1)) h_31
                        )
                      )
                    else
                      go1 i (IntKind.i64.wrap (x104 + 1)) h_31
                    )
                    ) fun J3 =>
                  Ld (.int .i64) h_30 (r9.add 3) fun (State : Int) =>
                  (bif State == 1 then
                    Ld (.int .i64) h_30 (r9.add 4) fun (Heard : Int) =>
                    J3 (decide ((IntKind.i64.wrap (now - Heard)) > wait)) h_30
                  else
                    J3 false h_30
                  )
                else
                  R (i == (r7.n : Int)) h_24
                )
                ) (0, 0, ()) h_23
            )
            ) fun J2 =>
          (bif decide (now < 0) then
            J2 true h_21
          else
            (bif decide (now > 1099511627776) then
              J2 true h_21
            else
              (bif decide (wait < 0) then
                J2 true h_21
              else
                J2 (decide (wait > 1099511627776)) h_21
              )
            )
          )
        )
        ) (0, ()) h_2
    )
  )
theorem E_law16_StatusStamp (l : Sl) (now : Int) (wait : Int) (h : Heap) (R : Bool → Heap → Prop) :
    VF Try.prog [(506, [(28, .one (.int .i64))]), (259276, [(56, .one .bool)]), (259277, []), (1020, [(97, .one .bool)]), (8186, [(16, .one (.int .i64)), (104, .one (.int .i64))]), (1047858, [(118, .one .bool)])] Try.f14 [.slice l.a l.n l.c, .int .i64 now, .int .i64 wait] h [.one .bool] R = S_law16_StatusStamp l now wait h R := by kernel_rfl
theorem A_law16_StatusStamp {l : Sl} {now : Int} {wait : Int} {h : Heap} {R : Bool → Heap → Prop} (hs : S_law16_StatusStamp l now wait h R) : C_law16_StatusStamp l now wait h R :=
  use_ Try.func14 (by kernel_rfl) (E_law16_StatusStamp l now wait h R) hs

/-- kissinggatelaw16.fixed -/
def S_law16_fixed  (h : Heap) (R : Bool → Heap → Prop) : Prop :=
  C_status_New  h fun (r : Option Addr) h_ =>
  C_status_Table_Open r 1 0 5 0 h_ fun (r1 : Int) (r2 : Int) h_1 =>
  C_status_Table_Kill r 1 0 0 h_1 fun (r3 : Int) (r4 : Int) h_2 =>
  C_status_Table_Decide r 1 0 h_2 fun (r5 : Int) (r6 : Int) h_3 =>
  C_status_Table_Open r 1 1 9 3 h_3 fun (r7 : Int) (r8 : Int) h_4 =>
  C_status_Table_Row r 1 h_4 fun (r9 : KL [.int .i64, .int .i64, .int .i64, .int .i64, .int .i64]) (r10 : Bool) h_5 =>
  Alloc h_5 (.cells #[.int .i64 0, .int .i64 0, .int .i64 0, .int .i64 0, .int .i64 0] 81) fun r11 h_6 =>
  St h_6 r11 (.int .i64 r9.1) fun h_7 =>
  St h_7 (r11.add 1) (.int .i64 r9.2.1) fun h_8 =>
  St h_8 (r11.add 2) (.int .i64 r9.2.2.1) fun h_9 =>
  St h_9 (r11.add 3) (.int .i64 r9.2.2.2.1) fun h_10 =>
  St h_10 (r11.add 4) (.int .i64 r9.2.2.2.2.1) fun h_11 =>
  C_status_Table_Decide r 1 1 h_11 fun (r12 : Int) (r13 : Int) h_12 =>
  C_status_Table_Open r 1 2 9 3 h_12 fun (r14 : Int) (r15 : Int) h_13 =>
  C_status_Table_Decide r 7 0 h_13 fun (r16 : Int) (r17 : Int) h_14 =>
  C_status_Table_Beat none 1 1 1 h_14 fun (r18 : Int) (r19 : Int) h_15 =>
  (bif r1 == 1 then
    (bif r2 == 0 then
      (bif r3 == 3 then
        (bif r4 == 0 then
          (bif r5 == 3 then
            (bif r6 == 0 then
              (bif r7 == 1 then
                (bif r8 == 0 then
                  (bif r10 then
                    Ld (.int .i64) h_15 (r11.add 2) fun (Stamp : Int) =>
                    (bif Stamp == 5 then
                      Ld (.int .i64) h_15 (r11.add 1) fun (Attempt : Int) =>
                      (bif Attempt == 1 then
                        Ld (.int .i64) h_15 (r11.add 4) fun (Heard : Int) =>
                        (bif Heard == 3 then
                          (bif r12 == 2 then
                            (bif r13 == 0 then
                              (bif r15 == 8 then
                                (bif r17 == 6 then
                                  (bif r19 == 1 then
                                    C_status_Table_State r 1 0 h_15 fun (r20 : Int) h_16 =>
                                    (bif r20 == 3 then
                                      C_status_Table_Rows none h_16 fun (r21 : Sl) h_17 =>
                                      R ((r21.n : Int) == 0) h_17
                                    else
                                      R false h_16
                                    )
                                  else
                                    R false h_15
                                  )
                                else
                                  R false h_15
                                )
                              else
                                R false h_15
                              )
                            else
                              R false h_15
                            )
                          else
                            R false h_15
                          )
                        else
                          R false h_15
                        )
                      else
                        R false h_15
                      )
                    else
                      R false h_15
                    )
                  else
                    R false h_15
                  )
                else
                  R false h_15
                )
              else
                R false h_15
              )
            else
              R false h_15
            )
          else
            R false h_15
          )
        else
          R false h_15
        )
      else
        R false h_15
      )
    else
      R false h_15
    )
  else
    R false h_15
  )
theorem E_law16_fixed  (h : Heap) (R : Bool → Heap → Prop) :
    VF Try.prog [] Try.f36 [] h [.one .bool] R = S_law16_fixed  h R := by kernel_rfl
theorem A_law16_fixed  {h : Heap} {R : Bool → Heap → Prop} (hs : S_law16_fixed  h R) : C_law16_fixed  h R :=
  use_ Try.func36 (by kernel_rfl) (E_law16_fixed  h R) hs

/-- kissinggatelaw16.do -/
def S_law16_do (t : Option Addr) (a : KL [.int .u8, .int .i64, .int .i64, .int .i64, .int .i64]) (h : Heap) (R : Int → Int → Heap → Prop) : Prop :=
  Alloc h (.cells #[.int .u8 a.1, .int .i64 a.2.1, .int .i64 a.2.2.1, .int .i64 a.2.2.2.1, .int .i64 a.2.2.2.2.1] 74) fun a1 h_ =>
  Ld (.int .u8) h_ a1 fun (Kind : Int) =>
  Nz 4 (
  (bif (divV .rem .u8 Kind 4) == 0 then
    Ld (.int .i64) h_ (a1.add 1) fun (Tx : Int) =>
    Ld (.int .i64) h_ (a1.add 2) fun (Attempt : Int) =>
    Ld (.int .i64) h_ (a1.add 3) fun (Stamp : Int) =>
    Ld (.int .i64) h_ (a1.add 4) fun (Now : Int) =>
    C_status_Table_Open t Tx Attempt Stamp Now h_ fun (r : Int) (r1 : Int) h_1 =>
    R r r1 h_1
  else
    (bif (divV .rem .u8 Kind 4) == 1 then
      Ld (.int .i64) h_ (a1.add 1) fun (Tx1 : Int) =>
      Ld (.int .i64) h_ (a1.add 2) fun (Attempt1 : Int) =>
      C_status_Table_Decide t Tx1 Attempt1 h_ fun (r2 : Int) (r3 : Int) h_2 =>
      R r2 r3 h_2
    else
      (bif (divV .rem .u8 Kind 4) == 2 then
        Ld (.int .i64) h_ (a1.add 1) fun (Tx2 : Int) =>
        Ld (.int .i64) h_ (a1.add 2) fun (Attempt2 : Int) =>
        Ld (.int .i64) h_ (a1.add 4) fun (Now1 : Int) =>
        C_status_Table_Kill t Tx2 Attempt2 Now1 h_ fun (r4 : Int) (r5 : Int) h_3 =>
        R r4 r5 h_3
      else
        Ld (.int .i64) h_ (a1.add 1) fun (Tx3 : Int) =>
        Ld (.int .i64) h_ (a1.add 2) fun (Attempt3 : Int) =>
        Ld (.int .i64) h_ (a1.add 4) fun (Now2 : Int) =>
        C_status_Table_Beat t Tx3 Attempt3 Now2 h_ fun (r6 : Int) (r7 : Int) h_4 =>
        R r6 r7 h_4
      )
    )
  )
  )
theorem E_law16_do (t : Option Addr) (a : KL [.int .u8, .int .i64, .int .i64, .int .i64, .int .i64]) (h : Heap) (R : Int → Int → Heap → Prop) :
    VF Try.prog [] Try.f38 [.pointer t, .agg ⟨KL.vals [.int .u8, .int .i64, .int .i64, .int .i64, .int .i64] a⟩] h [.one (.int .i64), .one (.int .i64)] R = S_law16_do t a h R := by kernel_rfl
theorem A_law16_do {t : Option Addr} {a : KL [.int .u8, .int .i64, .int .i64, .int .i64, .int .i64]} {h : Heap} {R : Int → Int → Heap → Prop} (hs : S_law16_do t a h R) : C_law16_do t a h R :=
  use_ Try.func38 (by kernel_rfl) (E_law16_do t a h R) hs

/-- kissinggatelaw16.want -/
def S_law16_want (r : Option Addr) (a : KL [.int .u8, .int .i64, .int .i64, .int .i64, .int .i64]) (h : Heap) (R : Int → Int → Heap → Prop) : Prop :=
  Alloc h (.cells #[.int .u8 a.1, .int .i64 a.2.1, .int .i64 a.2.2.1, .int .i64 a.2.2.2.1, .int .i64 a.2.2.2.2.1] 74) fun a1 h_ =>
  Ld (.int .u8) h_ a1 fun (Kind : Int) =>
  Nz 4 (
  (bif (divV .rem .u8 Kind 4) == 0 then
    Ld (.int .i64) h_ (a1.add 1) fun (Tx : Int) =>
    Ld (.int .i64) h_ (a1.add 2) fun (Attempt : Int) =>
    Ld (.int .i64) h_ (a1.add 3) fun (Stamp : Int) =>
    Ld (.int .i64) h_ (a1.add 4) fun (Now : Int) =>
    C_ref16_All_Do r 1 Tx Attempt Stamp Now h_ fun (r1 : Int) (r2 : Int) h_1 =>
    R r1 r2 h_1
  else
    (bif (divV .rem .u8 Kind 4) == 1 then
      Ld (.int .i64) h_ (a1.add 1) fun (Tx1 : Int) =>
      Ld (.int .i64) h_ (a1.add 2) fun (Attempt1 : Int) =>
      C_ref16_All_Do r 5 Tx1 Attempt1 0 0 h_ fun (r3 : Int) (r4 : Int) h_2 =>
      R r3 r4 h_2
    else
      (bif (divV .rem .u8 Kind 4) == 2 then
        Ld (.int .i64) h_ (a1.add 1) fun (Tx2 : Int) =>
        Ld (.int .i64) h_ (a1.add 2) fun (Attempt2 : Int) =>
        Ld (.int .i64) h_ (a1.add 4) fun (Now1 : Int) =>
        C_ref16_All_Do r 6 Tx2 Attempt2 0 Now1 h_ fun (r5 : Int) (r6 : Int) h_3 =>
        R r5 r6 h_3
      else
        Ld (.int .i64) h_ (a1.add 1) fun (Tx3 : Int) =>
        Ld (.int .i64) h_ (a1.add 2) fun (Attempt3 : Int) =>
        Ld (.int .i64) h_ (a1.add 4) fun (Now2 : Int) =>
        C_ref16_All_Do r 8 Tx3 Attempt3 0 Now2 h_ fun (r7 : Int) (r8 : Int) h_4 =>
        R r7 r8 h_4
      )
    )
  )
  )
theorem E_law16_want (r : Option Addr) (a : KL [.int .u8, .int .i64, .int .i64, .int .i64, .int .i64]) (h : Heap) (R : Int → Int → Heap → Prop) :
    VF Try.prog [] Try.f39 [.pointer r, .agg ⟨KL.vals [.int .u8, .int .i64, .int .i64, .int .i64, .int .i64] a⟩] h [.one (.int .i64), .one (.int .i64)] R = S_law16_want r a h R := by kernel_rfl
theorem A_law16_want {r : Option Addr} {a : KL [.int .u8, .int .i64, .int .i64, .int .i64, .int .i64]} {h : Heap} {R : Int → Int → Heap → Prop} (hs : S_law16_want r a h R) : C_law16_want r a h R :=
  use_ Try.func39 (by kernel_rfl) (E_law16_want r a h R) hs

/-- kissinggatelaw16.same -/
def S_law16_same (a : Sl) (b : Sl) (h : Heap) (R : Bool → Heap → Prop) : Prop :=
  (bif (a.n : Int) != (b.n : Int) then
    R false h
  else
    Loop [.one (.int .i64)] (fun _ (x13 : Int) h_ go =>
      (bif decide (x13 < (a.n : Int)) then
        Ix a x13 5 fun e =>
        Ld (.int .i64) h_ e fun (x_Tx : Int) =>
        Ld (.int .i64) h_ (e.add 1) fun (x_Attempt : Int) =>
        Ld (.int .i64) h_ (e.add 2) fun (x_Stamp : Int) =>
        Ld (.int .i64) h_ (e.add 3) fun (x_State : Int) =>
        Ld (.int .i64) h_ (e.add 4) fun (x_Heard : Int) =>
        Ix b x13 5 fun e1 =>
        Ld (.int .i64) h_ e1 fun (x_Tx1 : Int) =>
        Ld (.int .i64) h_ (e1.add 1) fun (x_Attempt1 : Int) =>
        Ld (.int .i64) h_ (e1.add 2) fun (x_Stamp1 : Int) =>
        Ld (.int .i64) h_ (e1.add 3) fun (x_State1 : Int) =>
        Ld (.int .i64) h_ (e1.add 4) fun (x_Heard1 : Int) =>
        OpV Try.prog (do eqGuard .neq 81 (.tmp 19) (.tmp 23) (.agg #[.int .i64 x_Tx, .int .i64 x_Attempt, .int .i64 x_Stamp, .int .i64 x_State, .int .i64 x_Heard]) (.agg #[.int .i64 x_Tx1, .int .i64 x_Attempt1, .int .i64 x_Stamp1, .int .i64 x_State1, .int .i64 x_Heard1]); binOp .neq 81 (.agg #[.int .i64 x_Tx, .int .i64 x_Attempt, .int .i64 x_Stamp, .int .i64 x_State, .int .i64 x_Heard]) (.agg #[.int .i64 x_Tx1, .int .i64 x_Attempt1, .int .i64 x_Stamp1, .int .i64 x_State1, .int .i64 x_Heard1])) h_ [.one .bool] fun (q : Bool) =>
        (bif q then
          R false h_
        else
          go (IntKind.i64.wrap (x13 + 1)) h_
        )
      else
        R true h_
      )
      ) (0, ()) h
  )
theorem E_law16_same (a : Sl) (b : Sl) (h : Heap) (R : Bool → Heap → Prop) :
    VF Try.prog [(58, [(13, .one (.int .i64))])] Try.f42 [.slice a.a a.n a.c, .slice b.a b.n b.c] h [.one .bool] R = S_law16_same a b h R := by kernel_rfl
theorem A_law16_same {a : Sl} {b : Sl} {h : Heap} {R : Bool → Heap → Prop} (hs : S_law16_same a b h R) : C_law16_same a b h R :=
  use_ Try.func42 (by kernel_rfl) (E_law16_same a b h R) hs

end Go.Proofs.Ytmpekddpehhdnaa
