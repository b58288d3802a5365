/- Printed by a program: what each function asks of the heap, that this is the reading of its code, and what follows for a call. -/
import Derived.Test.YtmpekddpehhdnaaSC
import Derived.Test.YtmpekddpehhdnaaProg
set_option maxRecDepth 1000000
namespace Go.Proofs.Ytmpekddpehhdnaa
open Go

/-- kissinggateref34.New -/
def S_ref34_New (willing : Sl) (h : Heap) (R : Option Addr → Heap → Prop) : Prop :=
  (
    Mk Try.prog 53 (IntKind.i64.wrap ((willing.n : Int) + 1)) (IntKind.i64.wrap ((willing.n : Int) + 1)) h fun s h_ =>
    Mk Try.prog 41 (IntKind.i64.wrap ((willing.n : Int) + 1)) (IntKind.i64.wrap ((willing.n : Int) + 1)) h_ fun s1 h_1 =>
    Alloc h_1 (.cells #[.slice s.a s.n s.c, .slice s1.a s1.n s1.c, .slice willing.a willing.n willing.c, .slice none 0 0, .slice none 0 0, .slice none 0 0] 56) fun p h_2 =>
    R (some p) h_2
  ) ∧
  (
    Mk Try.prog 41 (IntKind.i64.wrap ((willing.n : Int) + 1)) (IntKind.i64.wrap ((willing.n : Int) + 1)) h fun s2 h_3 =>
    Mk Try.prog 53 (IntKind.i64.wrap ((willing.n : Int) + 1)) (IntKind.i64.wrap ((willing.n : Int) + 1)) h_3 fun s3 h_4 =>
    Alloc h_4 (.cells #[.slice s3.a s3.n s3.c, .slice s2.a s2.n s2.c, .slice willing.a willing.n willing.c, .slice none 0 0, .slice none 0 0, .slice none 0 0] 56) fun p1 h_5 =>
    R (some p1) h_5
  )
theorem E_ref34_New (willing : Sl) (h : Heap) (R : Option Addr → Heap → Prop) :
    VF Try.prog [] Try.f24 [.slice willing.a willing.n willing.c] h [.one .ptr] R = S_ref34_New willing h R := by kernel_rfl
theorem A_ref34_New {willing : Sl} {h : Heap} {R : Option Addr → Heap → Prop} (hs : S_ref34_New willing h R) : C_ref34_New willing h R :=
  use_ Try.func24 (by kernel_rfl) (E_ref34_New willing h R) hs

/-- (*kissinggateref34.Deal).Begin -/
def S_ref34_Deal_Begin (d : Option Addr) (h : Heap) (R : Int → Heap → Prop) : Prop :=
  Nn d fun p =>
  Ld .sl h (p.add 2) fun (Willing : Sl) =>
  Let ((Willing.n : Int) : Int) fun n =>
  Nn d fun p1 =>
  Ld .sl h (p1.add 1) fun (Down : Sl) =>
  Ix Down n 1 fun e =>
  Ld .bool h e fun (x : Bool) =>
  (bif x then
    R 12 h
  else
    Nn d fun p2 =>
    Ld .sl h p2 fun (State : Sl) =>
    Ix State n 1 fun e1 =>
    Ld (.int .i64) h e1 fun (x1 : Int) =>
    (bif x1 == 0 then
      Nn d fun p3 =>
      Ld .sl h (p3.add 3) fun (Votes : Sl) =>
      C_ref34_Deal_tell d 1 Votes h fun h_ =>
      R 0 h_
    else
      Nn d fun p4 =>
      Ld .sl h p4 fun (State1 : Sl) =>
      Ix State1 n 1 fun e2 =>
      Ld (.int .i64) h e2 fun (x2 : Int) =>
      Nn d fun p5 =>
      Ld .sl h (p5.add 4) fun (Ack : Sl) =>
      C_ref34_Deal_tell d (IntKind.i64.wrap (x2 + 2)) Ack h fun h_1 =>
      R 0 h_1
    )
  )
theorem E_ref34_Deal_Begin (d : Option Addr) (h : Heap) (R : Int → Heap → Prop) :
    VF Try.prog [] Try.f66 [.pointer d] h [.one (.int .i64)] R = S_ref34_Deal_Begin d h R := by kernel_rfl
theorem A_ref34_Deal_Begin {d : Option Addr} {h : Heap} {R : Int → Heap → Prop} (hs : S_ref34_Deal_Begin d h R) : C_ref34_Deal_Begin d h R :=
  use_ Try.func66 (by kernel_rfl) (E_ref34_Deal_Begin d h R) hs

/-- (*kissinggateref34.Deal).GiveUp -/
def S_ref34_Deal_GiveUp (d : Option Addr) (h : Heap) (R : Int → Heap → Prop) : Prop :=
  Nn d fun p =>
  Ld .sl h (p.add 2) fun (Willing : Sl) =>
  Let ((Willing.n : Int) : Int) fun n =>
  Nn d fun p1 =>
  Ld .sl h (p1.add 1) fun (Down : Sl) =>
  Ix Down n 1 fun e =>
  Ld .bool h e fun (x : Bool) =>
  (bif x then
    R 12 h
  else
    Nn d fun p2 =>
    Ld .sl h p2 fun (State : Sl) =>
    Ix State n 1 fun e1 =>
    Ld (.int .i64) h e1 fun (x1 : Int) =>
    (bif x1 != 0 then
      R 8 h
    else
      C_ref34_Deal_note d 3 h fun h_ =>
      R 0 h_
    )
  )
theorem E_ref34_Deal_GiveUp (d : Option Addr) (h : Heap) (R : Int → Heap → Prop) :
    VF Try.prog [] Try.f67 [.pointer d] h [.one (.int .i64)] R = S_ref34_Deal_GiveUp d h R := by kernel_rfl
theorem A_ref34_Deal_GiveUp {d : Option Addr} {h : Heap} {R : Int → Heap → Prop} (hs : S_ref34_Deal_GiveUp d h R) : C_ref34_Deal_GiveUp d h R :=
  use_ Try.func67 (by kernel_rfl) (E_ref34_Deal_GiveUp d h R) hs

/-- (*kissinggateref34.Deal).Drop -/
def S_ref34_Deal_Drop (d : Option Addr) (i : Int) (h : Heap) (R : Int → Heap → Prop) : Prop :=
  (bif decide (i < 0) then
    R 6 h
  else
    Nn d fun p =>
    Ld .sl h (p.add 5) fun (Flight : Sl) =>
    (bif decide (i ≥ (Flight.n : Int)) then
      R 6 h
    else
      Nn d fun p1 =>
      Ld .sl h (p1.add 5) fun (Flight1 : Sl) =>
      Cut Try.prog 54 Flight1 none (some (.int .i64 i)) none fun s =>
      Nn d fun p2 =>
      Ld .sl h (p2.add 5) fun (Flight2 : Sl) =>
      Cut Try.prog 54 Flight2 (some (.int .i64 (IntKind.i64.wrap (i + 1)))) none none fun s1 =>
      Alloc h (.cells #[] 59) fun b h_ =>
      (Ld .sl h_ (p1.add 5) fun (Flight3 : Sl) => (.slice Flight3.a Flight3.n Flight3.c : Value) = .slice Flight1.a Flight1.n Flight1.c) ∧
      (Ld .sl h_ (p2.add 5) fun (Flight4 : Sl) => (.slice Flight4.a Flight4.n Flight4.c : Value) = .slice Flight2.a Flight2.n Flight2.c) ∧
      App Try.prog 54 54 ⟨some b, 0, 0⟩ s h_ fun s2 h_1 =>
      (Ld .sl h_1 (p2.add 5) fun (Flight5 : Sl) => (.slice Flight5.a Flight5.n Flight5.c : Value) = .slice Flight2.a Flight2.n Flight2.c) ∧
      App Try.prog 54 54 s2 s1 h_1 fun s3 h_2 =>
      Nn d fun p3 =>
      St h_2 (p3.add 5) (.slice s3.a s3.n s3.c) fun h_3 =>
      R 0 h_3
    )
  )
theorem E_ref34_Deal_Drop (d : Option Addr) (i : Int) (h : Heap) (R : Int → Heap → Prop) :
    VF Try.prog [] Try.f68 [.pointer d, .int .i64 i] h [.one (.int .i64)] R = S_ref34_Deal_Drop d i h R := by kernel_rfl
theorem A_ref34_Deal_Drop {d : Option Addr} {i : Int} {h : Heap} {R : Int → Heap → Prop} (hs : S_ref34_Deal_Drop d i h R) : C_ref34_Deal_Drop d i h R :=
  use_ Try.func68 (by kernel_rfl) (E_ref34_Deal_Drop d i h R) hs

/-- (*kissinggateref34.Deal).Double -/
def S_ref34_Deal_Double (d : Option Addr) (i : Int) (h : Heap) (R : Int → Heap → Prop) : Prop :=
  (bif decide (i < 0) then
    R 6 h
  else
    Nn d fun p =>
    Ld .sl h (p.add 5) fun (Flight : Sl) =>
    (bif decide (i ≥ (Flight.n : Int)) then
      R 6 h
    else
      Nn d fun p1 =>
      Ld .sl h (p1.add 5) fun (Flight1 : Sl) =>
      Nn d fun p2 =>
      Ld .sl h (p2.add 5) fun (Flight2 : Sl) =>
      Ix Flight2 i 2 fun e =>
      Ld (.int .i64) h e fun (x_Kind : Int) =>
      Ld (.int .i64) h (e.add 1) fun (x_Who : Int) =>
      Alloc h (.cells #[.int .i64 x_Kind, .int .i64 x_Who] 59) fun b h_ =>
      (Ld .sl h_ (p1.add 5) fun (Flight3 : Sl) => (.slice Flight3.a Flight3.n Flight3.c : Value) = .slice Flight1.a Flight1.n Flight1.c) ∧
      App Try.prog 54 54 Flight1 ⟨some b, 1, 1⟩ h_ fun s h_1 =>
      Nn d fun p3 =>
      St h_1 (p3.add 5) (.slice s.a s.n s.c) fun h_2 =>
      R 0 h_2
    )
  )
theorem E_ref34_Deal_Double (d : Option Addr) (i : Int) (h : Heap) (R : Int → Heap → Prop) :
    VF Try.prog [] Try.f69 [.pointer d, .int .i64 i] h [.one (.int .i64)] R = S_ref34_Deal_Double d i h R := by kernel_rfl
theorem A_ref34_Deal_Double {d : Option Addr} {i : Int} {h : Heap} {R : Int → Heap → Prop} (hs : S_ref34_Deal_Double d i h R) : C_ref34_Deal_Double d i h R :=
  use_ Try.func69 (by kernel_rfl) (E_ref34_Deal_Double d i h R) hs

/-- (*kissinggateref34.Deal).Crash -/
def S_ref34_Deal_Crash (d : Option Addr) (who : Int) (h : Heap) (R : Int → Heap → Prop) : Prop :=
  C_ref34_Deal_place d who h fun (r : Int) h_ =>
  (bif decide (r < 0) then
    R 6 h_
  else
    Nn d fun p =>
    Ld .sl h_ (p.add 1) fun (Down : Sl) =>
    Ix Down r 1 fun e =>
    Ld .bool h_ e fun (x : Bool) =>
    (bif x then
      R 12 h_
    else
      Nn d fun p1 =>
      Ld .sl h_ (p1.add 1) fun (Down1 : Sl) =>
      Ix Down1 r 1 fun e1 =>
      St h_ e1 (.bool true) fun h_1 =>
      (bif who == (-1) then
        Nn d fun p2 =>
        St h_1 (p2.add 3) (.slice none 0 0) fun h_2 =>
        Nn d fun p3 =>
        St h_2 (p3.add 4) (.slice none 0 0) fun h_3 =>
        R 0 h_3
      else
        R 0 h_1
      )
    )
  )
theorem E_ref34_Deal_Crash (d : Option Addr) (who : Int) (h : Heap) (R : Int → Heap → Prop) :
    VF Try.prog [] Try.f70 [.pointer d, .int .i64 who] h [.one (.int .i64)] R = S_ref34_Deal_Crash d who h R := by kernel_rfl
theorem A_ref34_Deal_Crash {d : Option Addr} {who : Int} {h : Heap} {R : Int → Heap → Prop} (hs : S_ref34_Deal_Crash d who h R) : C_ref34_Deal_Crash d who h R :=
  use_ Try.func70 (by kernel_rfl) (E_ref34_Deal_Crash d who h R) hs

/-- (*kissinggateref34.Deal).Start -/
def S_ref34_Deal_Start (d : Option Addr) (who : Int) (h : Heap) (R : Int → Heap → Prop) : Prop :=
  C_ref34_Deal_place d who h fun (r : Int) h_ =>
  (bif decide (r < 0) then
    R 6 h_
  else
    Nn d fun p =>
    Ld .sl h_ (p.add 1) fun (Down : Sl) =>
    Ix Down r 1 fun e =>
    Ld .bool h_ e fun (x : Bool) =>
    (bif !x then
      R 8 h_
    else
      Nn d fun p1 =>
      Ld .sl h_ (p1.add 1) fun (Down1 : Sl) =>
      Ix Down1 r 1 fun e1 =>
      St h_ e1 (.bool false) fun h_1 =>
      (bif who == (-1) then
        Nn d fun p2 =>
        Ld .sl h_1 p2 fun (State : Sl) =>
        Ix State r 1 fun e2 =>
        Ld (.int .i64) h_1 e2 fun (x1 : Int) =>
        (bif x1 == 0 then
          Nn d fun p3 =>
          Ld .sl h_1 p3 fun (State1 : Sl) =>
          Ix State1 r 1 fun e3 =>
          St h_1 e3 (.int .i64 3) fun h_2 =>
          R 0 h_2
        else
          R 0 h_1
        )
      else
        R 0 h_1
      )
    )
  )
theorem E_ref34_Deal_Start (d : Option Addr) (who : Int) (h : Heap) (R : Int → Heap → Prop) :
    VF Try.prog [] Try.f71 [.pointer d, .int .i64 who] h [.one (.int .i64)] R = S_ref34_Deal_Start d who h R := by kernel_rfl
theorem A_ref34_Deal_Start {d : Option Addr} {who : Int} {h : Heap} {R : Int → Heap → Prop} (hs : S_ref34_Deal_Start d who h R) : C_ref34_Deal_Start d who h R :=
  use_ Try.func71 (by kernel_rfl) (E_ref34_Deal_Start d who h R) hs

/-- (*kissinggateref34.Deal).Deliver -/
def S_ref34_Deal_Deliver (d : Option Addr) (i : Int) (h : Heap) (R : Int → Heap → Prop) : Prop :=
  (bif decide (i < 0) then
    R 6 h
  else
    Nn d fun p =>
    Ld .sl h (p.add 5) fun (Flight : Sl) =>
    (bif decide (i ≥ (Flight.n : Int)) then
      R 6 h
    else
      Nn d fun p1 =>
      Ld .sl h (p1.add 5) fun (Flight1 : Sl) =>
      Ix Flight1 i 2 fun e =>
      Ld (.int .i64) h e fun (x_Kind : Int) =>
      Ld (.int .i64) h (e.add 1) fun (x_Who : Int) =>
      Alloc h (.cells #[.int .i64 0, .int .i64 0] 59) fun m h_ =>
      St h_ m (.int .i64 x_Kind) fun h_1 =>
      St h_1 (m.add 1) (.int .i64 x_Who) fun h_2 =>
      C_ref34_Deal_Drop d i h_2 fun (r : Int) h_3 =>
      Nn d fun p2 =>
      Ld .sl h_3 (p2.add 2) fun (Willing : Sl) =>
      Let ((Willing.n : Int) : Int) fun n =>
      Ld (.int .i64) h_3 m fun (Kind : Int) =>
      (bif Kind == 1 then
        Join [.one (.int .i64)] (fun _ (to : Int) h_4 =>
          Nn d fun p3 =>
          Ld .sl h_4 (p3.add 1) fun (Down : Sl) =>
          Ix Down to 1 fun e1 =>
          Ld .bool h_4 e1 fun (x : Bool) =>
          (bif x then
            R 12 h_4
          else
            Nn d fun p4 =>
            Ld .sl h_4 p4 fun (State : Sl) =>
            Ix State to 1 fun e2 =>
            Ld (.int .i64) h_4 e2 fun (x1 : Int) =>
            Ld (.int .i64) h_4 m fun (Kind1 : Int) =>
            (bif Kind1 == 1 then
              (bif x1 == 0 then
                Nn d fun p5 =>
                Ld .sl h_4 (p5.add 2) fun (Willing1 : Sl) =>
                Ix Willing1 to 1 fun e3 =>
                Ld .bool h_4 e3 fun (x2 : Bool) =>
                Join [.one (.int .i64)] (fun _ (s : Int) h_5 =>
                  Nn d fun p6 =>
                  Ld .sl h_5 p6 fun (State1 : Sl) =>
                  Ix State1 to 1 fun e4 =>
                  St h_5 e4 (.int .i64 s) fun h_6 =>
                  Join [.one (.int .i64)] (fun _ (answer : Int) h_7 =>
                    Nn d fun p7 =>
                    Ld .sl h_7 (p7.add 5) fun (Flight2 : Sl) =>
                    Alloc h_7 (.cells #[.int .i64 answer, .int .i64 to] 59) fun b h_8 =>
                    App Try.prog 54 54 Flight2 ⟨some b, 1, 1⟩ h_8 fun s1 h_9 =>
                    Nn d fun p8 =>
                    St h_9 (p8.add 5) (.slice s1.a s1.n s1.c) fun h_10 =>
                    R 0 h_10
                    ) fun J2 =>
                  (bif s == 3 then
                    J2 3 h_6
                  else
                    J2 2 h_6
                  )
                  ) fun J1 =>
                (bif x2 then
                  J1 1 h_4
                else
                  (bif x1 == 0 then
                    J1 3 h_4
                  else
                    J1 x1 h_4
                  )
                )
              else
                Join [.one (.int .i64)] (fun _ (s2 : Int) h_11 =>
                  Nn d fun p9 =>
                  Ld .sl h_11 p9 fun (State2 : Sl) =>
                  Ix State2 to 1 fun e5 =>
                  St h_11 e5 (.int .i64 s2) fun h_12 =>
                  Join [.one (.int .i64)] (fun _ (answer1 : Int) h_13 =>
                    Nn d fun p10 =>
                    Ld .sl h_13 (p10.add 5) fun (Flight3 : Sl) =>
                    Alloc h_13 (.cells #[.int .i64 answer1, .int .i64 to] 59) fun b1 h_14 =>
                    App Try.prog 54 54 Flight3 ⟨some b1, 1, 1⟩ h_14 fun s3 h_15 =>
                    Nn d fun p11 =>
                    St h_15 (p11.add 5) (.slice s3.a s3.n s3.c) fun h_16 =>
                    R 0 h_16
                    ) fun J4 =>
                  (bif s2 == 3 then
                    J4 3 h_12
                  else
                    J4 2 h_12
                  )
                  ) fun J3 =>
                (bif x1 == 0 then
                  J3 3 h_4
                else
                  J3 x1 h_4
                )
              )
            else
              Ld (.int .i64) h_4 m fun (Kind2 : Int) =>
              (bif Kind2 == 4 then
                Join [] (fun _ h_17 =>
                  Nn d fun p12 =>
                  Ld .sl h_17 (p12.add 5) fun (Flight4 : Sl) =>
                  Alloc h_17 (.cells #[.int .i64 6, .int .i64 to] 59) fun b2 h_18 =>
                  App Try.prog 54 54 Flight4 ⟨some b2, 1, 1⟩ h_18 fun s4 h_19 =>
                  Nn d fun p13 =>
                  St h_19 (p13.add 5) (.slice s4.a s4.n s4.c) fun h_20 =>
                  R 0 h_20
                  ) fun J5 =>
                (bif x1 == 1 then
                  Nn d fun p14 =>
                  Ld .sl h_4 p14 fun (State3 : Sl) =>
                  Ix State3 to 1 fun e6 =>
                  St h_4 e6 (.int .i64 2) fun h_21 =>
                  J5  h_21
                else
                  J5  h_4
                )
              else
                Ld (.int .i64) h_4 m fun (Kind3 : Int) =>
                (bif Kind3 == 5 then
                  Join [] (fun _ h_22 =>
                    Nn d fun p15 =>
                    Ld .sl h_22 (p15.add 5) fun (Flight5 : Sl) =>
                    Alloc h_22 (.cells #[.int .i64 6, .int .i64 to] 59) fun b3 h_23 =>
                    App Try.prog 54 54 Flight5 ⟨some b3, 1, 1⟩ h_23 fun s5 h_24 =>
                    Nn d fun p16 =>
                    St h_24 (p16.add 5) (.slice s5.a s5.n s5.c) fun h_25 =>
                    R 0 h_25
                    ) fun J6 =>
                  (bif decide (x1 < 2) then
                    Nn d fun p17 =>
                    Ld .sl h_4 p17 fun (State4 : Sl) =>
                    Ix State4 to 1 fun e7 =>
                    St h_4 e7 (.int .i64 3) fun h_26 =>
                    J6  h_26
                  else
                    J6  h_4
                  )
                else
                  Ld (.int .i64) h_4 m fun (Kind4 : Int) =>
                  (bif Kind4 == 6 then
                    Nn d fun p18 =>
                    Ld .sl h_4 (p18.add 4) fun (Ack : Sl) =>
                    Ld (.int .i64) h_4 (m.add 1) fun (Who : Int) =>
                    Alloc h_4 (.cells #[.int .i64 Who] 3) fun b4 h_27 =>
                    (Ld .sl h_27 (p18.add 4) fun (Ack1 : Sl) => (.slice Ack1.a Ack1.n Ack1.c : Value) = .slice Ack.a Ack.n Ack.c) ∧
                    App Try.prog 53 53 Ack ⟨some b4, 1, 1⟩ h_27 fun s6 h_28 =>
                    Nn d fun p19 =>
                    St h_28 (p19.add 4) (.slice s6.a s6.n s6.c) fun h_29 =>
                    R 0 h_29
                  else
                    Ld (.int .i64) h_4 m fun (Kind5 : Int) =>
                    (bif Kind5 == 3 then
                      (bif x1 == 0 then
                        C_ref34_Deal_note d 3 h_4 fun h_30 =>
                        R 0 h_30
                      else
                        R 0 h_4
                      )
                    else
                      Nn d fun p20 =>
                      Ld .sl h_4 (p20.add 3) fun (Votes : Sl) =>
                      Ld (.int .i64) h_4 (m.add 1) fun (Who1 : Int) =>
                      Alloc h_4 (.cells #[.int .i64 Who1] 3) fun b5 h_31 =>
                      (Ld .sl h_31 (p20.add 3) fun (Votes1 : Sl) => (.slice Votes1.a Votes1.n Votes1.c : Value) = .slice Votes.a Votes.n Votes.c) ∧
                      App Try.prog 53 53 Votes ⟨some b5, 1, 1⟩ h_31 fun s7 h_32 =>
                      Nn d fun p21 =>
                      St h_32 (p21.add 3) (.slice s7.a s7.n s7.c) fun h_33 =>
                      Nn d fun p22 =>
                      Ld .sl h_33 (p22.add 2) fun (Willing2 : Sl) =>
                      Loop [.one .bool, .one (.int .i64)] (fun _ (all : Bool) (x186 : Int) h_34 go =>
                        (bif decide (x186 < (Willing2.n : Int)) then
                          (bif all then
                            Nn d fun p23 =>
                            Ld .sl h_34 (p23.add 3) fun (Votes2 : Sl) =>
                            C_ref34_in Votes2 x186 h_34 fun (r1 : Bool) h_35 =>
                            go r1 (IntKind.i64.wrap (x186 + 1)) h_35
                          else
                            go false (IntKind.i64.wrap (x186 + 1)) h_34
                          )
                        else
                          (bif x1 == 0 then
                            (bif all then
                              C_ref34_Deal_note d 2 h_34 fun h_36 =>
                              R 0 h_36
                            else
                              R 0 h_34
                            )
                          else
                            R 0 h_34
                          )
                        )
                        ) (true, 0, ()) h_33
                    )
                  )
                )
              )
            )
          )
          ) fun J =>
        Ld (.int .i64) h_3 (m.add 1) fun (Who2 : Int) =>
        J Who2 h_3
      else
        Ld (.int .i64) h_3 m fun (Kind6 : Int) =>
        (bif Kind6 == 4 then
          Join [.one (.int .i64)] (fun _ (to1 : Int) h_37 =>
            Nn d fun p24 =>
            Ld .sl h_37 (p24.add 1) fun (Down1 : Sl) =>
            Ix Down1 to1 1 fun e8 =>
            Ld .bool h_37 e8 fun (x3 : Bool) =>
            (bif x3 then
              R 12 h_37
            else
              Nn d fun p25 =>
              Ld .sl h_37 p25 fun (State5 : Sl) =>
              Ix State5 to1 1 fun e9 =>
              Ld (.int .i64) h_37 e9 fun (x4 : Int) =>
              Ld (.int .i64) h_37 m fun (Kind7 : Int) =>
              (bif Kind7 == 1 then
                (bif x4 == 0 then
                  Nn d fun p26 =>
                  Ld .sl h_37 (p26.add 2) fun (Willing3 : Sl) =>
                  Ix Willing3 to1 1 fun e10 =>
                  Ld .bool h_37 e10 fun (x5 : Bool) =>
                  Join [.one (.int .i64)] (fun _ (s8 : Int) h_38 =>
                    Nn d fun p27 =>
                    Ld .sl h_38 p27 fun (State6 : Sl) =>
                    Ix State6 to1 1 fun e11 =>
                    St h_38 e11 (.int .i64 s8) fun h_39 =>
                    Join [.one (.int .i64)] (fun _ (answer2 : Int) h_40 =>
                      Nn d fun p28 =>
                      Ld .sl h_40 (p28.add 5) fun (Flight6 : Sl) =>
                      Alloc h_40 (.cells #[.int .i64 answer2, .int .i64 to1] 59) fun b6 h_41 =>
                      App Try.prog 54 54 Flight6 ⟨some b6, 1, 1⟩ h_41 fun s9 h_42 =>
                      Nn d fun p29 =>
                      St h_42 (p29.add 5) (.slice s9.a s9.n s9.c) fun h_43 =>
                      R 0 h_43
                      ) fun J9 =>
                    (bif s8 == 3 then
                      J9 3 h_39
                    else
                      J9 2 h_39
                    )
                    ) fun J8 =>
                  (bif x5 then
                    J8 1 h_37
                  else
                    (bif x4 == 0 then
                      J8 3 h_37
                    else
                      J8 x4 h_37
                    )
                  )
                else
                  Join [.one (.int .i64)] (fun _ (s10 : Int) h_44 =>
                    Nn d fun p30 =>
                    Ld .sl h_44 p30 fun (State7 : Sl) =>
                    Ix State7 to1 1 fun e12 =>
                    St h_44 e12 (.int .i64 s10) fun h_45 =>
                    Join [.one (.int .i64)] (fun _ (answer3 : Int) h_46 =>
                      Nn d fun p31 =>
                      Ld .sl h_46 (p31.add 5) fun (Flight7 : Sl) =>
                      Alloc h_46 (.cells #[.int .i64 answer3, .int .i64 to1] 59) fun b7 h_47 =>
                      App Try.prog 54 54 Flight7 ⟨some b7, 1, 1⟩ h_47 fun s11 h_48 =>
                      Nn d fun p32 =>
                      St h_48 (p32.add 5) (.slice s11.a s11.n s11.c) fun h_49 =>
                      R 0 h_49
                      ) fun J11 =>
                    (bif s10 == 3 then
                      J11 3 h_45
                    else
                      J11 2 h_45
                    )
                    ) fun J10 =>
                  (bif x4 == 0 then
                    J10 3 h_37
                  else
                    J10 x4 h_37
                  )
                )
              else
                Ld (.int .i64) h_37 m fun (Kind8 : Int) =>
                (bif Kind8 == 4 then
                  Join [] (fun _ h_50 =>
                    Nn d fun p33 =>
                    Ld .sl h_50 (p33.add 5) fun (Flight8 : Sl) =>
                    Alloc h_50 (.cells #[.int .i64 6, .int .i64 to1] 59) fun b8 h_51 =>
                    App Try.prog 54 54 Flight8 ⟨some b8, 1, 1⟩ h_51 fun s12 h_52 =>
                    Nn d fun p34 =>
                    St h_52 (p34.add 5) (.slice s12.a s12.n s12.c) fun h_53 =>
                    R 0 h_53
                    ) fun J12 =>
                  (bif x4 == 1 then
                    Nn d fun p35 =>
                    Ld .sl h_37 p35 fun (State8 : Sl) =>
                    Ix State8 to1 1 fun e13 =>
                    St h_37 e13 (.int .i64 2) fun h_54 =>
                    J12  h_54
                  else
                    J12  h_37
                  )
                else
                  Ld (.int .i64) h_37 m fun (Kind9 : Int) =>
                  (bif Kind9 == 5 then
                    Join [] (fun _ h_55 =>
                      Nn d fun p36 =>
                      Ld .sl h_55 (p36.add 5) fun (Flight9 : Sl) =>
                      Alloc h_55 (.cells #[.int .i64 6, .int .i64 to1] 59) fun b9 h_56 =>
                      App Try.prog 54 54 Flight9 ⟨some b9, 1, 1⟩ h_56 fun s13 h_57 =>
                      Nn d fun p37 =>
                      St h_57 (p37.add 5) (.slice s13.a s13.n s13.c) fun h_58 =>
                      R 0 h_58
                      ) fun J13 =>
                    (bif decide (x4 < 2) then
                      Nn d fun p38 =>
                      Ld .sl h_37 p38 fun (State9 : Sl) =>
                      Ix State9 to1 1 fun e14 =>
                      St h_37 e14 (.int .i64 3) fun h_59 =>
                      J13  h_59
                    else
                      J13  h_37
                    )
                  else
                    Ld (.int .i64) h_37 m fun (Kind10 : Int) =>
                    (bif Kind10 == 6 then
                      Nn d fun p39 =>
                      Ld .sl h_37 (p39.add 4) fun (Ack2 : Sl) =>
                      Ld (.int .i64) h_37 (m.add 1) fun (Who3 : Int) =>
                      Alloc h_37 (.cells #[.int .i64 Who3] 3) fun b10 h_60 =>
                      (Ld .sl h_60 (p39.add 4) fun (Ack3 : Sl) => (.slice Ack3.a Ack3.n Ack3.c : Value) = .slice Ack2.a Ack2.n Ack2.c) ∧
                      App Try.prog 53 53 Ack2 ⟨some b10, 1, 1⟩ h_60 fun s14 h_61 =>
                      Nn d fun p40 =>
                      St h_61 (p40.add 4) (.slice s14.a s14.n s14.c) fun h_62 =>
                      R 0 h_62
                    else
                      Ld (.int .i64) h_37 m fun (Kind11 : Int) =>
                      (bif Kind11 == 3 then
                        (bif x4 == 0 then
                          C_ref34_Deal_note d 3 h_37 fun h_63 =>
                          R 0 h_63
                        else
                          R 0 h_37
                        )
                      else
                        Nn d fun p41 =>
                        Ld .sl h_37 (p41.add 3) fun (Votes3 : Sl) =>
                        Ld (.int .i64) h_37 (m.add 1) fun (Who4 : Int) =>
                        Alloc h_37 (.cells #[.int .i64 Who4] 3) fun b11 h_64 =>
                        (Ld .sl h_64 (p41.add 3) fun (Votes4 : Sl) => (.slice Votes4.a Votes4.n Votes4.c : Value) = .slice Votes3.a Votes3.n Votes3.c) ∧
                        App Try.prog 53 53 Votes3 ⟨some b11, 1, 1⟩ h_64 fun s15 h_65 =>
                        Nn d fun p42 =>
                        St h_65 (p42.add 3) (.slice s15.a s15.n s15.c) fun h_66 =>
                        Nn d fun p43 =>
                        Ld .sl h_66 (p43.add 2) fun (Willing4 : Sl) =>
                        Loop [.one .bool, .one (.int .i64)] (fun _ (all1 : Bool) (x1861 : Int) h_67 go1 =>
                          (bif decide (x1861 < (Willing4.n : Int)) then
                            (bif all1 then
                              Nn d fun p44 =>
                              Ld .sl h_67 (p44.add 3) fun (Votes5 : Sl) =>
                              C_ref34_in Votes5 x1861 h_67 fun (r2 : Bool) h_68 =>
                              go1 r2 (IntKind.i64.wrap (x1861 + 1)) h_68
                            else
                              go1 false (IntKind.i64.wrap (x1861 + 1)) h_67
                            )
                          else
                            (bif x4 == 0 then
                              (bif all1 then
                                C_ref34_Deal_note d 2 h_67 fun h_69 =>
                                R 0 h_69
                              else
                                R 0 h_67
                              )
                            else
                              R 0 h_67
                            )
                          )
                          ) (true, 0, ()) h_66
                      )
                    )
                  )
                )
              )
            )
            ) fun J7 =>
          Ld (.int .i64) h_3 (m.add 1) fun (Who5 : Int) =>
          J7 Who5 h_3
        else
          Ld (.int .i64) h_3 m fun (Kind12 : Int) =>
          Join [.one (.int .i64)] (fun _ (to2 : Int) h_70 =>
            Nn d fun p45 =>
            Ld .sl h_70 (p45.add 1) fun (Down2 : Sl) =>
            Ix Down2 to2 1 fun e15 =>
            Ld .bool h_70 e15 fun (x6 : Bool) =>
            (bif x6 then
              R 12 h_70
            else
              Nn d fun p46 =>
              Ld .sl h_70 p46 fun (State10 : Sl) =>
              Ix State10 to2 1 fun e16 =>
              Ld (.int .i64) h_70 e16 fun (x7 : Int) =>
              Ld (.int .i64) h_70 m fun (Kind13 : Int) =>
              (bif Kind13 == 1 then
                (bif x7 == 0 then
                  Nn d fun p47 =>
                  Ld .sl h_70 (p47.add 2) fun (Willing5 : Sl) =>
                  Ix Willing5 to2 1 fun e17 =>
                  Ld .bool h_70 e17 fun (x8 : Bool) =>
                  Join [.one (.int .i64)] (fun _ (s16 : Int) h_71 =>
                    Nn d fun p48 =>
                    Ld .sl h_71 p48 fun (State11 : Sl) =>
                    Ix State11 to2 1 fun e18 =>
                    St h_71 e18 (.int .i64 s16) fun h_72 =>
                    Join [.one (.int .i64)] (fun _ (answer4 : Int) h_73 =>
                      Nn d fun p49 =>
                      Ld .sl h_73 (p49.add 5) fun (Flight10 : Sl) =>
                      Alloc h_73 (.cells #[.int .i64 answer4, .int .i64 to2] 59) fun b12 h_74 =>
                      App Try.prog 54 54 Flight10 ⟨some b12, 1, 1⟩ h_74 fun s17 h_75 =>
                      Nn d fun p50 =>
                      St h_75 (p50.add 5) (.slice s17.a s17.n s17.c) fun h_76 =>
                      R 0 h_76
                      ) fun J16 =>
                    (bif s16 == 3 then
                      J16 3 h_72
                    else
                      J16 2 h_72
                    )
                    ) fun J15 =>
                  (bif x8 then
                    J15 1 h_70
                  else
                    (bif x7 == 0 then
                      J15 3 h_70
                    else
                      J15 x7 h_70
                    )
                  )
                else
                  Join [.one (.int .i64)] (fun _ (s18 : Int) h_77 =>
                    Nn d fun p51 =>
                    Ld .sl h_77 p51 fun (State12 : Sl) =>
                    Ix State12 to2 1 fun e19 =>
                    St h_77 e19 (.int .i64 s18) fun h_78 =>
                    Join [.one (.int .i64)] (fun _ (answer5 : Int) h_79 =>
                      Nn d fun p52 =>
                      Ld .sl h_79 (p52.add 5) fun (Flight11 : Sl) =>
                      Alloc h_79 (.cells #[.int .i64 answer5, .int .i64 to2] 59) fun b13 h_80 =>
                      App Try.prog 54 54 Flight11 ⟨some b13, 1, 1⟩ h_80 fun s19 h_81 =>
                      Nn d fun p53 =>
                      St h_81 (p53.add 5) (.slice s19.a s19.n s19.c) fun h_82 =>
                      R 0 h_82
                      ) fun J18 =>
                    (bif s18 == 3 then
                      J18 3 h_78
                    else
                      J18 2 h_78
                    )
                    ) fun J17 =>
                  (bif x7 == 0 then
                    J17 3 h_70
                  else
                    J17 x7 h_70
                  )
                )
              else
                Ld (.int .i64) h_70 m fun (Kind14 : Int) =>
                (bif Kind14 == 4 then
                  Join [] (fun _ h_83 =>
                    Nn d fun p54 =>
                    Ld .sl h_83 (p54.add 5) fun (Flight12 : Sl) =>
                    Alloc h_83 (.cells #[.int .i64 6, .int .i64 to2] 59) fun b14 h_84 =>
                    App Try.prog 54 54 Flight12 ⟨some b14, 1, 1⟩ h_84 fun s20 h_85 =>
                    Nn d fun p55 =>
                    St h_85 (p55.add 5) (.slice s20.a s20.n s20.c) fun h_86 =>
                    R 0 h_86
                    ) fun J19 =>
                  (bif x7 == 1 then
                    Nn d fun p56 =>
                    Ld .sl h_70 p56 fun (State13 : Sl) =>
                    Ix State13 to2 1 fun e20 =>
                    St h_70 e20 (.int .i64 2) fun h_87 =>
                    J19  h_87
                  else
                    J19  h_70
                  )
                else
                  Ld (.int .i64) h_70 m fun (Kind15 : Int) =>
                  (bif Kind15 == 5 then
                    Join [] (fun _ h_88 =>
                      Nn d fun p57 =>
                      Ld .sl h_88 (p57.add 5) fun (Flight13 : Sl) =>
                      Alloc h_88 (.cells #[.int .i64 6, .int .i64 to2] 59) fun b15 h_89 =>
                      App Try.prog 54 54 Flight13 ⟨some b15, 1, 1⟩ h_89 fun s21 h_90 =>
                      Nn d fun p58 =>
                      St h_90 (p58.add 5) (.slice s21.a s21.n s21.c) fun h_91 =>
                      R 0 h_91
                      ) fun J20 =>
                    (bif decide (x7 < 2) then
                      Nn d fun p59 =>
                      Ld .sl h_70 p59 fun (State14 : Sl) =>
                      Ix State14 to2 1 fun e21 =>
                      St h_70 e21 (.int .i64 3) fun h_92 =>
                      J20  h_92
                    else
                      J20  h_70
                    )
                  else
                    Ld (.int .i64) h_70 m fun (Kind16 : Int) =>
                    (bif Kind16 == 6 then
                      Nn d fun p60 =>
                      Ld .sl h_70 (p60.add 4) fun (Ack4 : Sl) =>
                      Ld (.int .i64) h_70 (m.add 1) fun (Who6 : Int) =>
                      Alloc h_70 (.cells #[.int .i64 Who6] 3) fun b16 h_93 =>
                      (Ld .sl h_93 (p60.add 4) fun (Ack5 : Sl) => (.slice Ack5.a Ack5.n Ack5.c : Value) = .slice Ack4.a Ack4.n Ack4.c) ∧
                      App Try.prog 53 53 Ack4 ⟨some b16, 1, 1⟩ h_93 fun s22 h_94 =>
                      Nn d fun p61 =>
                      St h_94 (p61.add 4) (.slice s22.a s22.n s22.c) fun h_95 =>
                      R 0 h_95
                    else
                      Ld (.int .i64) h_70 m fun (Kind17 : Int) =>
                      (bif Kind17 == 3 then
                        (bif x7 == 0 then
                          C_ref34_Deal_note d 3 h_70 fun h_96 =>
                          R 0 h_96
                        else
                          R 0 h_70
                        )
                      else
                        Nn d fun p62 =>
                        Ld .sl h_70 (p62.add 3) fun (Votes6 : Sl) =>
                        Ld (.int .i64) h_70 (m.add 1) fun (Who7 : Int) =>
                        Alloc h_70 (.cells #[.int .i64 Who7] 3) fun b17 h_97 =>
                        (Ld .sl h_97 (p62.add 3) fun (Votes7 : Sl) => (.slice Votes7.a Votes7.n Votes7.c : Value) = .slice Votes6.a Votes6.n Votes6.c) ∧
                        App Try.prog 53 53 Votes6 ⟨some b17, 1, 1⟩ h_97 fun s23 h_98 =>
                        Nn d fun p63 =>
                        St h_98 (p63.add 3) (.slice s23.a s23.n s23.c) fun h_99 =>
                        Nn d fun p64 =>
                        Ld .sl h_99 (p64.add 2) fun (Willing6 : Sl) =>
                        Loop [.one .bool, .one (.int .i64)] (fun _ (all2 : Bool) (x1862 : Int) h_100 go2 =>
                          (bif decide (x1862 < (Willing6.n : Int)) then
                            (bif all2 then
                              Nn d fun p65 =>
                              Ld .sl h_100 (p65.add 3) fun (Votes8 : Sl) =>
                              C_ref34_in Votes8 x1862 h_100 fun (r3 : Bool) h_101 =>
                              go2 r3 (IntKind.i64.wrap (x1862 + 1)) h_101
                            else
                              go2 false (IntKind.i64.wrap (x1862 + 1)) h_100
                            )
                          else
                            (bif x7 == 0 then
                              (bif all2 then
                                C_ref34_Deal_note d 2 h_100 fun h_102 =>
                                R 0 h_102
                              else
                                R 0 h_100
                              )
                            else
                              R 0 h_100
                            )
                          )
                          ) (true, 0, ()) h_99
                      )
                    )
                  )
                )
              )
            )
            ) fun J14 =>
          (bif Kind12 == 5 then
            Ld (.int .i64) h_3 (m.add 1) fun (Who8 : Int) =>
            J14 Who8 h_3
          else
            J14 n h_3
          )
        )
      )
    )
  )
theorem E_ref34_Deal_Deliver (d : Option Addr) (i : Int) (h : Heap) (R : Int → Heap → Prop) :
    VF Try.prog [(509, [(7, .one (.int .i64))]), (32745, [(8, .one (.int .i64))]), (261981, [(9, .one (.int .i64))]), (32745, [(8, .one (.int .i64))]), (261981, [(9, .one (.int .i64))]), (131001, []), (524025, []), (67076090, [(10, .one .bool), (186, .one (.int .i64))]), (509, [(7, .one (.int .i64))]), (32745, [(8, .one (.int .i64))]), (261981, [(9, .one (.int .i64))]), (32745, [(8, .one (.int .i64))]), (261981, [(9, .one (.int .i64))]), (131001, []), (524025, []), (67076090, [(10, .one .bool), (186, .one (.int .i64))]), (509, [(7, .one (.int .i64))]), (32745, [(8, .one (.int .i64))]), (261981, [(9, .one (.int .i64))]), (32745, [(8, .one (.int .i64))]), (261981, [(9, .one (.int .i64))]), (131001, []), (524025, []), (67076090, [(10, .one .bool), (186, .one (.int .i64))])] Try.f72 [.pointer d, .int .i64 i] h [.one (.int .i64)] R = S_ref34_Deal_Deliver d i h R := by kernel_rfl
theorem A_ref34_Deal_Deliver {d : Option Addr} {i : Int} {h : Heap} {R : Int → Heap → Prop} (hs : S_ref34_Deal_Deliver d i h R) : C_ref34_Deal_Deliver d i h R :=
  use_ Try.func72 (by kernel_rfl) (E_ref34_Deal_Deliver d i h R) hs

/-- (*kissinggateref34.Deal).tell -/
def S_ref34_Deal_tell (d : Option Addr) (kind : Int) (but : Sl) (h : Heap) (R : Heap → Prop) : Prop :=
  Nn d fun p =>
  Ld .sl h (p.add 2) fun (Willing : Sl) =>
  Loop [.one (.int .i64)] (fun _ (x12 : Int) h_ go =>
    (bif decide (x12 < (Willing.n : Int)) then
      C_ref34_in but x12 h_ fun (r : Bool) h_1 =>
      (bif !r then
        Nn d fun p1 =>
        Ld .sl h_1 (p1.add 5) fun (Flight : Sl) =>
        Alloc h_1 (.cells #[.int .i64 kind, .int .i64 x12] 59) fun b h_2 =>
        App Try.prog 54 54 Flight ⟨some b, 1, 1⟩ h_2 fun s h_3 =>
        Nn d fun p2 =>
        St h_3 (p2.add 5) (.slice s.a s.n s.c) fun h_4 =>
        go (IntKind.i64.wrap (x12 + 1)) h_4
      else
        go (IntKind.i64.wrap (x12 + 1)) h_1
      )
    else
      R h_
    )
    ) (0, ()) h
theorem E_ref34_Deal_tell (d : Option Addr) (kind : Int) (but : Sl) (h : Heap) (R : Heap → Prop) :
    VF Try.prog [(6, [(12, .one (.int .i64))])] Try.f111 [.pointer d, .int .i64 kind, .slice but.a but.n but.c] h [] R = S_ref34_Deal_tell d kind but h R := by kernel_rfl
theorem A_ref34_Deal_tell {d : Option Addr} {kind : Int} {but : Sl} {h : Heap} {R : Heap → Prop} (hs : S_ref34_Deal_tell d kind but h R) : C_ref34_Deal_tell d kind but h R :=
  use_ Try.func111 (by kernel_rfl) (E_ref34_Deal_tell d kind but h R) hs

/-- (*kissinggateref34.Deal).note -/
def S_ref34_Deal_note (d : Option Addr) (state : Int) (h : Heap) (R : Heap → Prop) : Prop :=
  Nn d fun p =>
  Ld .sl h p fun (State : Sl) =>
  Nn d fun p1 =>
  Ld .sl h (p1.add 2) fun (Willing : Sl) =>
  Ix State (Willing.n : Int) 1 fun e =>
  St h e (.int .i64 state) fun h_ =>
  C_ref34_Deal_tell d (IntKind.i64.wrap (state + 2)) ⟨none, 0, 0⟩ h_ fun h_1 =>
  R h_1
theorem E_ref34_Deal_note (d : Option Addr) (state : Int) (h : Heap) (R : Heap → Prop) :
    VF Try.prog [] Try.f112 [.pointer d, .int .i64 state] h [] R = S_ref34_Deal_note d state h R := by kernel_rfl
theorem A_ref34_Deal_note {d : Option Addr} {state : Int} {h : Heap} {R : Heap → Prop} (hs : S_ref34_Deal_note d state h R) : C_ref34_Deal_note d state h R :=
  use_ Try.func112 (by kernel_rfl) (E_ref34_Deal_note d state h R) hs

/-- (*kissinggateref34.Deal).place -/
def S_ref34_Deal_place (d : Option Addr) (who : Int) (h : Heap) (R : Int → Heap → Prop) : Prop :=
  (bif who == (-1) then
    Nn d fun p =>
    Ld .sl h (p.add 2) fun (Willing : Sl) =>
    R (Willing.n : Int) h
  else
    (bif decide (who < 0) then
      R (-1) h
    else
      Nn d fun p1 =>
      Ld .sl h (p1.add 2) fun (Willing1 : Sl) =>
      (bif decide (who ≥ (Willing1.n : Int)) then
        R (-1) h
      else
        R who h
      )
    )
  )
theorem E_ref34_Deal_place (d : Option Addr) (who : Int) (h : Heap) (R : Int → Heap → Prop) :
    VF Try.prog [] Try.f113 [.pointer d, .int .i64 who] h [.one (.int .i64)] R = S_ref34_Deal_place d who h R := by kernel_rfl
theorem A_ref34_Deal_place {d : Option Addr} {who : Int} {h : Heap} {R : Int → Heap → Prop} (hs : S_ref34_Deal_place d who h R) : C_ref34_Deal_place d who h R :=
  use_ Try.func113 (by kernel_rfl) (E_ref34_Deal_place d who h R) hs

/-- kissinggateref34.in -/
def S_ref34_in (l : Sl) (x : Int) (h : Heap) (R : Bool → Heap → Prop) : Prop :=
  Loop [.one (.int .i64)] (fun _ (x9 : Int) h_ go =>
    (bif decide (x9 < (l.n : Int)) then
      Ix l x9 1 fun e =>
      Ld (.int .i64) h_ e fun (x1 : Int) =>
      (bif x == x1 then
        R true h_
      else
        go (IntKind.i64.wrap (x9 + 1)) h_
      )
    else
      R false h_
    )
    ) (0, ()) h
theorem E_ref34_in (l : Sl) (x : Int) (h : Heap) (R : Bool → Heap → Prop) :
    VF Try.prog [(26, [(9, .one (.int .i64))])] Try.f114 [.slice l.a l.n l.c, .int .i64 x] h [.one .bool] R = S_ref34_in l x h R := by kernel_rfl
theorem A_ref34_in {l : Sl} {x : Int} {h : Heap} {R : Bool → Heap → Prop} (hs : S_ref34_in l x h R) : C_ref34_in l x h R :=
  use_ Try.func114 (by kernel_rfl) (E_ref34_in l x h R) hs

end Go.Proofs.Ytmpekddpehhdnaa
