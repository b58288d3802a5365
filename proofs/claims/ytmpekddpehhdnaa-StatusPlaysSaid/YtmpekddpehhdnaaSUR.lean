/- Printed by a program: what each function asks of the heap, that this is the reading of its code, and what follows for a call. -/
import Derived.Test.YtmpekddpehhdnaaSC
import Derived.Test.YtmpekddpehhdnaaProg
set_option maxRecDepth 1000000
namespace Go.Proofs.Ytmpekddpehhdnaa
open Go

/-- (*kissinggateref16.All).State -/
def S_ref16_All_State (a : Option Addr) (tx : Int) (attempt : Int) (h : Heap) (R : Int → Heap → Prop) : Prop :=
  C_ref16_All_newest a tx h fun (r : Int) h_ =>
  Join [.one .bool] (fun _ (x24 : Bool) h_1 =>
    (bif x24 then
      R 0 h_1
    else
      Nn a fun p =>
      Ld .sl h_1 p fun (L : Sl) =>
      Ix L r 5 fun e =>
      Ld (.int .i64) h_1 (e.add 1) fun (Attempt : Int) =>
      (bif decide (attempt < Attempt) then
        R 3 h_1
      else
        Nn a fun p1 =>
        Ld .sl h_1 p1 fun (L1 : Sl) =>
        Ix L1 r 5 fun e1 =>
        Ld (.int .i64) h_1 (e1.add 3) fun (State : Int) =>
        R State h_1
      )
    )
    ) fun J =>
  (bif decide (r < 0) then
    J true h_
  else
    Nn a fun p2 =>
    Ld .sl h_ p2 fun (L2 : Sl) =>
    Ix L2 r 5 fun e2 =>
    Ld (.int .i64) h_ (e2.add 1) fun (Attempt1 : Int) =>
    J (decide (attempt > Attempt1)) h_
  )
theorem E_ref16_All_State (a : Option Addr) (tx : Int) (attempt : Int) (h : Heap) (R : Int → Heap → Prop) :
    VF Try.prog [(28, [(24, .one .bool)])] Try.f41 [.pointer a, .int .i64 tx, .int .i64 attempt] h [.one (.int .i64)] R = S_ref16_All_State a tx attempt h R := by kernel_rfl
theorem A_ref16_All_State {a : Option Addr} {tx : Int} {attempt : Int} {h : Heap} {R : Int → Heap → Prop} (hs : S_ref16_All_State a tx attempt h R) : C_ref16_All_State a tx attempt h R :=
  use_ Try.func41 (by kernel_rfl) (E_ref16_All_State a tx attempt h R) hs

/-- (*kissinggateref16.All).Rows -/
def S_ref16_All_Rows (a : Option Addr) (h : Heap) (R : Sl → Heap → Prop) : Prop :=
  Nn a fun p =>
  Ld .sl h p fun (L : Sl) =>
  Loop [.one .sl, .one (.int .i64)] (fun _ (out : Sl) (x12 : Int) h_ go =>
    (bif decide (x12 < (L.n : Int)) then
      Ix L x12 5 fun e =>
      Ld (.int .i64) h_ e fun (x_Tx : Int) =>
      Ld (.int .i64) h_ (e.add 1) fun (x_Attempt : Int) =>
      Ld (.int .i64) h_ (e.add 2) fun (x_Stamp : Int) =>
      Ld (.int .i64) h_ (e.add 3) fun (x_State : Int) =>
      Ld (.int .i64) h_ (e.add 4) fun (x_Heard : Int) =>
      Alloc h_ (.cells #[.int .i64 0, .int .i64 0, .int .i64 0, .int .i64 0, .int .i64 0] 81) fun r h_1 =>
      St h_1 r (.int .i64 x_Tx) fun h_2 =>
      St h_2 (r.add 1) (.int .i64 x_Attempt) fun h_3 =>
      St h_3 (r.add 2) (.int .i64 x_Stamp) fun h_4 =>
      St h_4 (r.add 3) (.int .i64 x_State) fun h_5 =>
      St h_5 (r.add 4) (.int .i64 x_Heard) fun h_6 =>
      Ld (.int .i64) h_6 r fun (Tx : Int) =>
      C_ref16_All_newest a Tx h_6 fun (r1 : Int) h_7 =>
      (bif r1 != x12 then
        go out (IntKind.i64.wrap (x12 + 1)) h_7
      else
        Join [.one (.int .i64)] (fun _ (at_ : Int) h_8 =>
          Cut Try.prog 70 out none (some (.int .i64 at_)) none fun s =>
          Ld (.int .i64) h_8 r fun (x_Tx1 : Int) =>
          Ld (.int .i64) h_8 (r.add 1) fun (x_Attempt1 : Int) =>
          Ld (.int .i64) h_8 (r.add 2) fun (x_Stamp1 : Int) =>
          Ld (.int .i64) h_8 (r.add 3) fun (x_State1 : Int) =>
          Ld (.int .i64) h_8 (r.add 4) fun (x_Heard1 : Int) =>
          Cut Try.prog 70 out (some (.int .i64 at_)) none none fun s1 =>
          (
            Alloc h_8 (.cells #[] 81) fun b h_9 =>
            (Ld (.int .i64) h_9 r fun (x_Tx2 : Int) => Ld (.int .i64) h_9 (r.add 1) fun (x_Attempt2 : Int) => Ld (.int .i64) h_9 (r.add 2) fun (x_Stamp2 : Int) => Ld (.int .i64) h_9 (r.add 3) fun (x_State2 : Int) => Ld (.int .i64) h_9 (r.add 4) fun (x_Heard2 : Int) => (.agg #[.int .i64 x_Tx2, .int .i64 x_Attempt2, .int .i64 x_Stamp2, .int .i64 x_State2, .int .i64 x_Heard2] : Value) = .agg #[.int .i64 x_Tx1, .int .i64 x_Attempt1, .int .i64 x_Stamp1, .int .i64 x_State1, .int .i64 x_Heard1]) ∧
            (
              App Try.prog 70 70 ⟨some b, 0, 0⟩ s h_9 fun s2 h_10 =>
              (Ld (.int .i64) h_10 r fun (x_Tx3 : Int) => Ld (.int .i64) h_10 (r.add 1) fun (x_Attempt3 : Int) => Ld (.int .i64) h_10 (r.add 2) fun (x_Stamp3 : Int) => Ld (.int .i64) h_10 (r.add 3) fun (x_State3 : Int) => Ld (.int .i64) h_10 (r.add 4) fun (x_Heard3 : Int) => (.agg #[.int .i64 x_Tx3, .int .i64 x_Attempt3, .int .i64 x_Stamp3, .int .i64 x_State3, .int .i64 x_Heard3] : Value) = .agg #[.int .i64 x_Tx1, .int .i64 x_Attempt1, .int .i64 x_Stamp1, .int .i64 x_State1, .int .i64 x_Heard1]) ∧
              Alloc h_10 (.cells #[.int .i64 x_Tx1, .int .i64 x_Attempt1, .int .i64 x_Stamp1, .int .i64 x_State1, .int .i64 x_Heard1] 81) fun b1 h_11 =>
              App Try.prog 70 70 s2 ⟨some b1, 1, 1⟩ h_11 fun s3 h_12 =>
              App Try.prog 70 70 s3 s1 h_12 fun s4 h_13 =>
              go s4 (IntKind.i64.wrap (x12 + 1)) h_13
            ) ∧
            (
              Alloc h_9 (.cells #[.int .i64 x_Tx1, .int .i64 x_Attempt1, .int .i64 x_Stamp1, .int .i64 x_State1, .int .i64 x_Heard1] 81) fun b2 h_14 =>
              App Try.prog 70 70 ⟨some b, 0, 0⟩ s h_14 fun s5 h_15 =>
              (Ld (.int .i64) h_15 r fun (x_Tx4 : Int) => Ld (.int .i64) h_15 (r.add 1) fun (x_Attempt4 : Int) => Ld (.int .i64) h_15 (r.add 2) fun (x_Stamp4 : Int) => Ld (.int .i64) h_15 (r.add 3) fun (x_State4 : Int) => Ld (.int .i64) h_15 (r.add 4) fun (x_Heard4 : Int) => (.agg #[.int .i64 x_Tx4, .int .i64 x_Attempt4, .int .i64 x_Stamp4, .int .i64 x_State4, .int .i64 x_Heard4] : Value) = .agg #[.int .i64 x_Tx1, .int .i64 x_Attempt1, .int .i64 x_Stamp1, .int .i64 x_State1, .int .i64 x_Heard1]) ∧
              App Try.prog 70 70 s5 ⟨some b2, 1, 1⟩ h_15 fun s6 h_16 =>
              App Try.prog 70 70 s6 s1 h_16 fun s7 h_17 =>
              go s7 (IntKind.i64.wrap (x12 + 1)) h_17
            )
          ) ∧
          (
            Alloc h_8 (.cells #[.int .i64 x_Tx1, .int .i64 x_Attempt1, .int .i64 x_Stamp1, .int .i64 x_State1, .int .i64 x_Heard1] 81) fun b3 h_18 =>
            Alloc h_18 (.cells #[] 81) fun b4 h_19 =>
            (Ld (.int .i64) h_19 r fun (x_Tx5 : Int) => Ld (.int .i64) h_19 (r.add 1) fun (x_Attempt5 : Int) => Ld (.int .i64) h_19 (r.add 2) fun (x_Stamp5 : Int) => Ld (.int .i64) h_19 (r.add 3) fun (x_State5 : Int) => Ld (.int .i64) h_19 (r.add 4) fun (x_Heard5 : Int) => (.agg #[.int .i64 x_Tx5, .int .i64 x_Attempt5, .int .i64 x_Stamp5, .int .i64 x_State5, .int .i64 x_Heard5] : Value) = .agg #[.int .i64 x_Tx1, .int .i64 x_Attempt1, .int .i64 x_Stamp1, .int .i64 x_State1, .int .i64 x_Heard1]) ∧
            App Try.prog 70 70 ⟨some b4, 0, 0⟩ s h_19 fun s8 h_20 =>
            (Ld (.int .i64) h_20 r fun (x_Tx6 : Int) => Ld (.int .i64) h_20 (r.add 1) fun (x_Attempt6 : Int) => Ld (.int .i64) h_20 (r.add 2) fun (x_Stamp6 : Int) => Ld (.int .i64) h_20 (r.add 3) fun (x_State6 : Int) => Ld (.int .i64) h_20 (r.add 4) fun (x_Heard6 : Int) => (.agg #[.int .i64 x_Tx6, .int .i64 x_Attempt6, .int .i64 x_Stamp6, .int .i64 x_State6, .int .i64 x_Heard6] : Value) = .agg #[.int .i64 x_Tx1, .int .i64 x_Attempt1, .int .i64 x_Stamp1, .int .i64 x_State1, .int .i64 x_Heard1]) ∧
            App Try.prog 70 70 s8 ⟨some b3, 1, 1⟩ h_20 fun s9 h_21 =>
            App Try.prog 70 70 s9 s1 h_21 fun s10 h_22 =>
            go s10 (IntKind.i64.wrap (x12 + 1)) h_22
          )
          ) fun J =>
        Loop [.one (.int .i64)] (fun _ (at_1 : Int) h_23 go1 =>
          (bif decide (at_1 < (out.n : Int)) then
            Ix out at_1 5 fun e1 =>
            Ld (.int .i64) h_23 e1 fun (Tx1 : Int) =>
            Ld (.int .i64) h_23 r fun (Tx2 : Int) =>
            (bif decide (Tx1 < Tx2) then
              Let (IntKind.i64.wrap (at_1 + 1) : Int) fun at_2 =>
              go1 at_2 h_23
            else
              J at_1 h_23
            )
          else
            J at_1 h_23
          )
          ) (0, ()) h_7
      )
    else
      R out h_
    )
    ) (⟨none, 0, 0⟩, 0, ()) h
theorem E_ref16_All_Rows (a : Option Addr) (h : Heap) (R : Sl → Heap → Prop) :
    VF Try.prog [(58, [(3, .one .sl), (12, .one (.int .i64))]), (29902, [(6, .one (.int .i64))]), (59804, [(6, .one (.int .i64))])] Try.f44 [.pointer a] h [.one .sl] R = S_ref16_All_Rows a h R := by kernel_rfl
theorem A_ref16_All_Rows {a : Option Addr} {h : Heap} {R : Sl → Heap → Prop} (hs : S_ref16_All_Rows a h R) : C_ref16_All_Rows a h R :=
  use_ Try.func44 (by kernel_rfl) (E_ref16_All_Rows a h R) hs

/-- (*kissinggateref16.All).Do -/
def S_ref16_All_Do (a : Option Addr) (kind : Int) (tx : Int) (attempt : Int) (stamp : Int) (now : Int) (h : Heap) (R : Int → Int → Heap → Prop) : Prop :=
  Join [.one .bool] (fun _ (x32 : Bool) h_ =>
    (bif x32 then
      R 0 1 h_
    else
      C_ref16_All_newest a tx h_ fun (r : Int) h_1 =>
      Join [.one .bool] (fun _ (x49 : Bool) h_2 =>
        (bif x49 then
          (bif kind == 1 then
            R 0 9 h_2
          else
            R 3 0 h_2
          )
        else
          Join [.one .bool] (fun _ (x65 : Bool) h_3 =>
            (bif x65 then
              C_ref16_All_newer a kind tx attempt stamp now h_3 fun (r1 : Int) (r2 : Int) h_4 =>
              R r1 r2 h_4
            else
              Nn a fun p =>
              Ld .sl h_3 p fun (L : Sl) =>
              Ix L r 5 fun e =>
              Ld (.int .i64) h_3 (e.add 3) fun (State : Int) =>
              Join [.one .bool] (fun _ (x88 : Bool) h_5 =>
                (bif x88 then
                  R 0 9 h_5
                else
                  Join [.one .bool] (fun _ (x94 : Bool) h_6 =>
                    Join [] (fun _ h_7 =>
                      Join [.one .bool] (fun _ (x107 : Bool) h_8 =>
                        Join [] (fun _ h_9 =>
                          Join [.one .bool] (fun _ (x132 : Bool) h_10 =>
                            Join [] (fun _ h_11 =>
                              Nn a fun p1 =>
                              Ld .sl h_11 p1 fun (L1 : Sl) =>
                              Ix L1 r 5 fun e1 =>
                              Ld (.int .i64) h_11 (e1.add 3) fun (State1 : Int) =>
                              R State1 0 h_11
                              ) fun J9 =>
                            (bif x132 then
                              Nn a fun p2 =>
                              Ld .sl h_10 p2 fun (L2 : Sl) =>
                              Ix L2 r 5 fun e2 =>
                              St h_10 (e2.add 4) (.int .i64 now) fun h_12 =>
                              J9  h_12
                            else
                              J9  h_10
                            )
                            ) fun J8 =>
                          (bif kind == 8 then
                            (bif State == 1 then
                              Nn a fun p3 =>
                              Ld .sl h_9 p3 fun (L3 : Sl) =>
                              Ix L3 r 5 fun e3 =>
                              Ld (.int .i64) h_9 (e3.add 4) fun (Heard : Int) =>
                              J8 (decide (now > Heard)) h_9
                            else
                              J8 false h_9
                            )
                          else
                            J8 false h_9
                          )
                          ) fun J7 =>
                        (bif x107 then
                          Nn a fun p4 =>
                          Ld .sl h_8 p4 fun (L4 : Sl) =>
                          Ix L4 r 5 fun e4 =>
                          St h_8 (e4.add 3) (.int .i64 3) fun h_13 =>
                          J7  h_13
                        else
                          J7  h_8
                        )
                        ) fun J6 =>
                      (bif kind == 6 then
                        J6 (State == 1) h_7
                      else
                        J6 false h_7
                      )
                      ) fun J5 =>
                    (bif x94 then
                      Nn a fun p5 =>
                      Ld .sl h_6 p5 fun (L5 : Sl) =>
                      Ix L5 r 5 fun e5 =>
                      St h_6 (e5.add 3) (.int .i64 2) fun h_14 =>
                      J5  h_14
                    else
                      J5  h_6
                    )
                    ) fun J4 =>
                  (bif kind == 5 then
                    J4 (State == 1) h_5
                  else
                    J4 false h_5
                  )
                )
                ) fun J3 =>
              (bif kind == 1 then
                J3 (State == 3) h_3
              else
                J3 false h_3
              )
            )
            ) fun J2 =>
          (bif decide (r < 0) then
            J2 true h_2
          else
            Nn a fun p6 =>
            Ld .sl h_2 p6 fun (L6 : Sl) =>
            Ix L6 r 5 fun e6 =>
            Ld (.int .i64) h_2 (e6.add 1) fun (Attempt : Int) =>
            J2 (decide (attempt > Attempt)) h_2
          )
        )
        ) fun J1 =>
      (bif decide (r ≥ 0) then
        Nn a fun p7 =>
        Ld .sl h_1 p7 fun (L7 : Sl) =>
        Ix L7 r 5 fun e7 =>
        Ld (.int .i64) h_1 (e7.add 1) fun (Attempt1 : Int) =>
        J1 (decide (attempt < Attempt1)) h_1
      else
        J1 false h_1
      )
    )
    ) fun J =>
  C_ref16_right tx attempt now h fun (r3 : Bool) h_15 =>
  (bif !r3 then
    J true h_15
  else
    (bif kind == 1 then
      (bif decide (stamp < 1) then
        J true h_15
      else
        J (decide (stamp > 1099511627776)) h_15
      )
    else
      J false h_15
    )
  )
theorem E_ref16_All_Do (a : Option Addr) (kind : Int) (tx : Int) (attempt : Int) (stamp : Int) (now : Int) (h : Heap) (R : Int → Int → Heap → Prop) :
    VF Try.prog [(12, [(32, .one .bool)]), (60, [(49, .one .bool)]), (124, [(65, .one .bool)]), (508, [(88, .one .bool)]), (1020, [(94, .one .bool)]), (1021, []), (2044, [(107, .one .bool)]), (2045, []), (4092, [(132, .one .bool)]), (4093, [])] Try.f87 [.pointer a, .int .i64 kind, .int .i64 tx, .int .i64 attempt, .int .i64 stamp, .int .i64 now] h [.one (.int .i64), .one (.int .i64)] R = S_ref16_All_Do a kind tx attempt stamp now h R := by kernel_rfl
theorem A_ref16_All_Do {a : Option Addr} {kind : Int} {tx : Int} {attempt : Int} {stamp : Int} {now : Int} {h : Heap} {R : Int → Int → Heap → Prop} (hs : S_ref16_All_Do a kind tx attempt stamp now h R) : C_ref16_All_Do a kind tx attempt stamp now h R :=
  use_ Try.func87 (by kernel_rfl) (E_ref16_All_Do a kind tx attempt stamp now h R) hs

/-- (*kissinggateref16.All).newest -/
def S_ref16_All_newest (a : Option Addr) (tx : Int) (h : Heap) (R : Int → Heap → Prop) : Prop :=
  Let (-1 : Int) fun best =>
  Nn a fun p =>
  Ld .sl h p fun (L : Sl) =>
  Loop [.one (.int .i64), .one (.int .i64)] (fun _ (best1 : Int) (x13 : Int) h_ go =>
    (bif decide (x13 < (L.n : Int)) then
      Ix L x13 5 fun e =>
      Ld (.int .i64) h_ e fun (x_Tx : Int) =>
      Ld (.int .i64) h_ (e.add 1) fun (x_Attempt : Int) =>
      Ld (.int .i64) h_ (e.add 2) fun (x_Stamp : Int) =>
      Ld (.int .i64) h_ (e.add 3) fun (x_State : Int) =>
      Ld (.int .i64) h_ (e.add 4) fun (x_Heard : Int) =>
      Alloc h_ (.cells #[.int .i64 0, .int .i64 0, .int .i64 0, .int .i64 0, .int .i64 0] 81) fun r h_1 =>
      St h_1 r (.int .i64 x_Tx) fun h_2 =>
      St h_2 (r.add 1) (.int .i64 x_Attempt) fun h_3 =>
      St h_3 (r.add 2) (.int .i64 x_Stamp) fun h_4 =>
      St h_4 (r.add 3) (.int .i64 x_State) fun h_5 =>
      St h_5 (r.add 4) (.int .i64 x_Heard) fun h_6 =>
      Ld (.int .i64) h_6 r fun (Tx : Int) =>
      (bif Tx == tx then
        (bif decide (best1 < 0) then
          go x13 (IntKind.i64.wrap (x13 + 1)) h_6
        else
          Ld (.int .i64) h_6 (r.add 1) fun (Attempt : Int) =>
          Nn a fun p1 =>
          Ld .sl h_6 p1 fun (L1 : Sl) =>
          Ix L1 best1 5 fun e1 =>
          Ld (.int .i64) h_6 (e1.add 1) fun (Attempt1 : Int) =>
          (bif decide (Attempt > Attempt1) then
            go x13 (IntKind.i64.wrap (x13 + 1)) h_6
          else
            go best1 (IntKind.i64.wrap (x13 + 1)) h_6
          )
        )
      else
        go best1 (IntKind.i64.wrap (x13 + 1)) h_6
      )
    else
      R best1 h_
    )
    ) (best, 0, ()) h
theorem E_ref16_All_newest (a : Option Addr) (tx : Int) (h : Heap) (R : Int → Heap → Prop) :
    VF Try.prog [(58, [(5, .one (.int .i64)), (13, .one (.int .i64))])] Try.f89 [.pointer a, .int .i64 tx] h [.one (.int .i64)] R = S_ref16_All_newest a tx h R := by kernel_rfl
theorem A_ref16_All_newest {a : Option Addr} {tx : Int} {h : Heap} {R : Int → Heap → Prop} (hs : S_ref16_All_newest a tx h R) : C_ref16_All_newest a tx h R :=
  use_ Try.func89 (by kernel_rfl) (E_ref16_All_newest a tx h R) hs

/-- kissinggateref16.right -/
def S_ref16_right (tx : Int) (attempt : Int) (now : Int) (h : Heap) (R : Bool → Heap → Prop) : Prop :=
  (bif decide (tx ≥ 0) then
    (bif decide (tx ≤ 1048576) then
      (bif decide (attempt ≥ 0) then
        (bif decide (attempt ≤ 1048576) then
          (bif decide (now ≥ 0) then
            R (decide (now ≤ 1099511627776)) h
          else
            R false h
          )
        else
          R false h
        )
      else
        R false h
      )
    else
      R false h
    )
  else
    R false h
  )
theorem E_ref16_right (tx : Int) (attempt : Int) (now : Int) (h : Heap) (R : Bool → Heap → Prop) :
    VF Try.prog [] Try.f119 [.int .i64 tx, .int .i64 attempt, .int .i64 now] h [.one .bool] R = S_ref16_right tx attempt now h R := by kernel_rfl
theorem A_ref16_right {tx : Int} {attempt : Int} {now : Int} {h : Heap} {R : Bool → Heap → Prop} (hs : S_ref16_right tx attempt now h R) : C_ref16_right tx attempt now h R :=
  use_ Try.func119 (by kernel_rfl) (E_ref16_right tx attempt now h R) hs

/-- (*kissinggateref16.All).newer -/
def S_ref16_All_newer (a : Option Addr) (kind : Int) (tx : Int) (attempt : Int) (stamp : Int) (now : Int) (h : Heap) (R : Int → Int → Heap → Prop) : Prop :=
  Join [.one .bool] (fun _ (x22 : Bool) h_ =>
    (bif x22 then
      R 0 6 h_
    else
      C_ref16_All_newest a tx h_ fun (r : Int) h_1 =>
      Join [.one .bool] (fun _ (x38 : Bool) h_2 =>
        (bif x38 then
          R 0 8 h_2
        else
          C_ref16_All_first a tx h_2 fun (r1 : Int) h_3 =>
          Join [.one .bool] (fun _ (x47 : Bool) h_4 =>
            Join [.one (.int .i64)] (fun _ (s : Int) h_5 =>
              Join [.one (.int .i64)] (fun _ (state : Int) h_6 =>
                Nn a fun p =>
                Ld .sl h_6 p fun (L : Sl) =>
                Alloc h_6 (.cells #[.int .i64 tx, .int .i64 attempt, .int .i64 s, .int .i64 state, .int .i64 now] 81) fun b h_7 =>
                App Try.prog 70 70 L ⟨some b, 1, 1⟩ h_7 fun s1 h_8 =>
                Nn a fun p1 =>
                St h_8 p1 (.slice s1.a s1.n s1.c) fun h_9 =>
                R state 0 h_9
                ) fun J4 =>
              (bif kind == 1 then
                J4 1 h_5
              else
                J4 3 h_5
              )
              ) fun J3 =>
            (bif x47 then
              J3 stamp h_4
            else
              J3 r1 h_4
            )
            ) fun J2 =>
          (bif r1 == 0 then
            J2 (kind == 1) h_3
          else
            J2 false h_3
          )
        )
        ) fun J1 =>
      (bif decide (r ≥ 0) then
        Nn a fun p2 =>
        Ld .sl h_1 p2 fun (L1 : Sl) =>
        Ix L1 r 5 fun e =>
        Ld (.int .i64) h_1 (e.add 3) fun (State : Int) =>
        J1 (State != 3) h_1
      else
        J1 false h_1
      )
    )
    ) fun J =>
  (bif kind == 5 then
    J true h
  else
    J (kind == 8) h
  )
theorem E_ref16_All_newer (a : Option Addr) (kind : Int) (tx : Int) (attempt : Int) (stamp : Int) (now : Int) (h : Heap) (R : Int → Int → Heap → Prop) :
    VF Try.prog [(12, [(22, .one .bool)]), (60, [(38, .one .bool)]), (252, [(47, .one .bool)]), (253, [(15, .one (.int .i64))]), (1021, [(16, .one (.int .i64))])] Try.f120 [.pointer a, .int .i64 kind, .int .i64 tx, .int .i64 attempt, .int .i64 stamp, .int .i64 now] h [.one (.int .i64), .one (.int .i64)] R = S_ref16_All_newer a kind tx attempt stamp now h R := by kernel_rfl
theorem A_ref16_All_newer {a : Option Addr} {kind : Int} {tx : Int} {attempt : Int} {stamp : Int} {now : Int} {h : Heap} {R : Int → Int → Heap → Prop} (hs : S_ref16_All_newer a kind tx attempt stamp now h R) : C_ref16_All_newer a kind tx attempt stamp now h R :=
  use_ Try.func120 (by kernel_rfl) (E_ref16_All_newer a kind tx attempt stamp now h R) hs

/-- (*kissinggateref16.All).first -/
def S_ref16_All_first (a : Option Addr) (tx : Int) (h : Heap) (R : Int → Heap → Prop) : Prop :=
  Nn a fun p =>
  Ld .sl h p fun (L : Sl) =>
  Loop [.one (.int .i64)] (fun _ (x12 : Int) h_ go =>
    (bif decide (x12 < (L.n : Int)) then
      Ix L x12 5 fun e =>
      Ld (.int .i64) h_ e fun (x_Tx : Int) =>
      Ld (.int .i64) h_ (e.add 1) fun (x_Attempt : Int) =>
      Ld (.int .i64) h_ (e.add 2) fun (x_Stamp : Int) =>
      Ld (.int .i64) h_ (e.add 3) fun (x_State : Int) =>
      Ld (.int .i64) h_ (e.add 4) fun (x_Heard : Int) =>
      Alloc h_ (.cells #[.int .i64 0, .int .i64 0, .int .i64 0, .int .i64 0, .int .i64 0] 81) fun r h_1 =>
      St h_1 r (.int .i64 x_Tx) fun h_2 =>
      St h_2 (r.add 1) (.int .i64 x_Attempt) fun h_3 =>
      St h_3 (r.add 2) (.int .i64 x_Stamp) fun h_4 =>
      St h_4 (r.add 3) (.int .i64 x_State) fun h_5 =>
      St h_5 (r.add 4) (.int .i64 x_Heard) fun h_6 =>
      Ld (.int .i64) h_6 r fun (Tx : Int) =>
      (bif Tx == tx then
        Ld (.int .i64) h_6 (r.add 2) fun (Stamp : Int) =>
        (bif decide (Stamp > 0) then
          Ld (.int .i64) h_6 (r.add 2) fun (Stamp1 : Int) =>
          R Stamp1 h_6
        else
          go (IntKind.i64.wrap (x12 + 1)) h_6
        )
      else
        go (IntKind.i64.wrap (x12 + 1)) h_6
      )
    else
      R 0 h_
    )
    ) (0, ()) h
theorem E_ref16_All_first (a : Option Addr) (tx : Int) (h : Heap) (R : Int → Heap → Prop) :
    VF Try.prog [(26, [(12, .one (.int .i64))])] Try.f132 [.pointer a, .int .i64 tx] h [.one (.int .i64)] R = S_ref16_All_first a tx h R := by kernel_rfl
theorem A_ref16_All_first {a : Option Addr} {tx : Int} {h : Heap} {R : Int → Heap → Prop} (hs : S_ref16_All_first a tx h R) : C_ref16_All_first a tx h R :=
  use_ Try.func132 (by kernel_rfl) (E_ref16_All_first a tx h R) hs

end Go.Proofs.Ytmpekddpehhdnaa
