/- Printed by a program: what each function asks of the heap, that this is the reading of its code, and what follows for a call. -/
import Derived.Test.YtmpekddpehhdnaaSC
import Derived.Test.YtmpekddpehhdnaaProg
set_option maxRecDepth 1000000
namespace Go.Proofs.Ytmpekddpehhdnaa
open Go

/-- kissinggatelaw14.ChaseOldest -/
def S_law14_ChaseOldest (stamps : Sl) (edges : Sl) (h : Heap) (R : Bool → Heap → Prop) : Prop :=
  C_law14_fixed  h fun (r : Bool) h_ =>
  (bif !r then
    R false h_
  else
    Join [.one .bool] (fun _ (x25 : Bool) h_1 =>
      (bif x25 then
        R true h_1
      else
        C_chase_New 8 h_1 fun (r1 : Option Addr) h_2 =>
        Loop [.one (.int .i64)] (fun _ (x29 : Int) h_3 go =>
          (bif decide (x29 < (stamps.n : Int)) then
            Ix stamps x29 1 fun e =>
            Ld (.int .u8) h_3 e fun (x : Int) =>
            Nz 8 (
            C_chase_Field_Node r1 x29 (IntKind.i64.wrap x) (divV .rem .i64 x29 8) h_3 fun (r2 : Int) h_4 =>
            (bif r2 != 0 then
              R false h_4
            else
              go (IntKind.i64.wrap (x29 + 1)) h_4
            )
            )
          else
            Loop [.one (.int .i64)] (fun _ (x45 : Int) h_5 go1 =>
              (bif decide (x45 < (edges.n : Int)) then
                Ix edges x45 2 fun e1 =>
                Ld (.int .i64) h_5 e1 fun (x_From : Int) =>
                Ld (.int .i64) h_5 (e1.add 1) fun (x_To : Int) =>
                Alloc h_5 (.cells #[.int .i64 0, .int .i64 0] 30) fun e2 h_6 =>
                St h_6 e2 (.int .i64 x_From) fun h_7 =>
                St h_7 (e2.add 1) (.int .i64 x_To) fun h_8 =>
                Ld (.int .i64) h_8 e2 fun (From : Int) =>
                Ld (.int .i64) h_8 (e2.add 1) fun (To : Int) =>
                C_chase_Field_Edge r1 From To h_8 fun (r3 : Int) h_9 =>
                go1 (IntKind.i64.wrap (x45 + 1)) h_9
              else
                Loop [.one (.int .i64)] (fun _ (x58 : Int) h_10 go2 =>
                  (bif decide (x58 < (stamps.n : Int)) then
                    C_chase_Field_Begin r1 x58 h_10 fun (r4 : Int) (r5 : Int) h_11 =>
                    go2 (IntKind.i64.wrap (x58 + 1)) h_11
                  else
                    Loop [.one (.int .i64)] (fun _ (n : Int) h_12 go3 =>
                      (bif decide (n < 3000) then
                        C_chase_Field_Flight r1 h_12 fun (r6 : Sl) h_13 =>
                        (bif (r6.n : Int) == 0 then
                          R true h_13
                        else
                          Ix r6 0 4 fun e3 =>
                          Ld (.int .i64) h_13 e3 fun (x_Start : Int) =>
                          Ld (.int .i64) h_13 (e3.add 1) fun (x_Stamp : Int) =>
                          Ld (.int .i64) h_13 (e3.add 2) fun (x_Round : Int) =>
                          Ld (.int .i64) h_13 (e3.add 3) fun (x_At : Int) =>
                          Alloc h_13 (.cells #[.int .i64 0, .int .i64 0, .int .i64 0, .int .i64 0] 37) fun p h_14 =>
                          St h_14 p (.int .i64 x_Start) fun h_15 =>
                          St h_15 (p.add 1) (.int .i64 x_Stamp) fun h_16 =>
                          St h_16 (p.add 2) (.int .i64 x_Round) fun h_17 =>
                          St h_17 (p.add 3) (.int .i64 x_At) fun h_18 =>
                          Join [.one .bool] (fun _ (x109 : Bool) h_19 =>
                            (bif x109 then
                              R false h_19
                            else
                              Ld (.int .i64) h_19 (p.add 3) fun (At_ : Int) =>
                              Ix stamps At_ 1 fun e4 =>
                              Ld (.int .u8) h_19 e4 fun (x1 : Int) =>
                              Ld (.int .i64) h_19 p fun (Start : Int) =>
                              Ix stamps Start 1 fun e5 =>
                              Ld (.int .u8) h_19 e5 fun (x2 : Int) =>
                              (bif decide (x1 > x2) then
                                R false h_19
                              else
                                (bif x1 == x2 then
                                  Ld (.int .i64) h_19 (p.add 3) fun (At_1 : Int) =>
                                  Ld (.int .i64) h_19 p fun (Start1 : Int) =>
                                  (bif decide (At_1 > Start1) then
                                    R false h_19
                                  else
                                    C_chase_Field_Deliver r1 0 h_19 fun (r7 : Int) (r8 : Bool) (r9 : Int) h_20 =>
                                    Let (IntKind.i64.wrap (n + 1) : Int) fun n1 =>
                                    go3 n1 h_20
                                  )
                                else
                                  C_chase_Field_Deliver r1 0 h_19 fun (r10 : Int) (r11 : Bool) (r12 : Int) h_21 =>
                                  Let (IntKind.i64.wrap (n + 1) : Int) fun n2 =>
                                  go3 n2 h_21
                                )
                              )
                            )
                            ) fun J1 =>
                          Ld (.int .i64) h_18 p fun (Start2 : Int) =>
                          (bif decide (Start2 < 0) then
                            J1 true h_18
                          else
                            Ld (.int .i64) h_18 p fun (Start3 : Int) =>
                            (bif decide (Start3 ≥ (stamps.n : Int)) then
                              J1 true h_18
                            else
                              Ld (.int .i64) h_18 (p.add 3) fun (At_2 : Int) =>
                              (bif decide (At_2 < 0) then
                                J1 true h_18
                              else
                                Ld (.int .i64) h_18 (p.add 3) fun (At_3 : Int) =>
                                (bif decide (At_3 ≥ (stamps.n : Int)) then
                                  J1 true h_18
                                else
                                  Ld (.int .i64) h_18 (p.add 1) fun (Stamp : Int) =>
                                  Ld (.int .i64) h_18 p fun (Start4 : Int) =>
                                  Ix stamps Start4 1 fun e6 =>
                                  Ld (.int .u8) h_18 e6 fun (x3 : Int) =>
                                  J1 (Stamp != (IntKind.i64.wrap x3)) h_18
                                )
                              )
                            )
                          )
                        )
                      else
                        R true h_12
                      )
                      ) (0, ()) h_10
                  )
                  ) (0, ()) h_5
              )
              ) (0, ()) h_3
          )
          ) (0, ()) h_2
      )
      ) fun J =>
    (bif decide ((stamps.n : Int) > 40) then
      J true h_
    else
      J (decide ((edges.n : Int) > 200)) h_
    )
  )
theorem E_law14_ChaseOldest (stamps : Sl) (edges : Sl) (h : Heap) (R : Bool → Heap → Prop) :
    VF Try.prog [(28, [(25, .one .bool)]), (250, [(29, .one (.int .i64))]), (506, [(45, .one (.int .i64))]), (1018, [(58, .one (.int .i64))]), (2042, [(11, .one (.int .i64))]), (1045660, [(109, .one .bool)])] Try.f3 [.slice stamps.a stamps.n stamps.c, .slice edges.a edges.n edges.c] h [.one .bool] R = S_law14_ChaseOldest stamps edges h R := by kernel_rfl
theorem A_law14_ChaseOldest {stamps : Sl} {edges : Sl} {h : Heap} {R : Bool → Heap → Prop} (hs : S_law14_ChaseOldest stamps edges h R) : C_law14_ChaseOldest stamps edges h R :=
  use_ Try.func3 (by kernel_rfl) (E_law14_ChaseOldest stamps edges h R) hs

/-- kissinggatelaw14.ChasePlays -/
def S_law14_ChasePlays (sites : Int) (l : Sl) (h : Heap) (R : Bool → Heap → Prop) : Prop :=
  C_law14_fixed  h fun (r : Bool) h_ =>
  (bif !r then
    R false h_
  else
    (bif decide ((l.n : Int) > 80) then
      R true h_
    else
      C_chase_New sites h_ fun (r1 : Option Addr) h_1 =>
      Join [.one .bool] (fun _ (x21 : Bool) h_2 =>
        (bif x21 then
          R r1.isNone h_2
        else
          Alloc h_2 (.cells #[.int .i64 sites, .slice none 0 0, .slice none 0 0, .slice none 0 0, .slice none 0 0, .slice none 0 0] 95) fun p h_3 =>
          Loop [.one (.int .i64)] (fun _ (x29 : Int) h_4 go =>
            (bif decide (x29 < (l.n : Int)) then
              Ix l x29 4 fun e =>
              Ld (.int .u8) h_4 e fun (x_Kind : Int) =>
              Ld (.int .i64) h_4 (e.add 1) fun (x_A : Int) =>
              Ld (.int .i64) h_4 (e.add 2) fun (x_B : Int) =>
              Ld (.int .i64) h_4 (e.add 3) fun (x_Site : Int) =>
              Alloc h_4 (.cells #[.int .u8 0, .int .i64 0, .int .i64 0, .int .i64 0] 97) fun a h_5 =>
              St h_5 a (.int .u8 x_Kind) fun h_6 =>
              St h_6 (a.add 1) (.int .i64 x_A) fun h_7 =>
              St h_7 (a.add 2) (.int .i64 x_B) fun h_8 =>
              St h_8 (a.add 3) (.int .i64 x_Site) fun h_9 =>
              Ld (.int .u8) h_9 a fun (x_Kind1 : Int) =>
              Ld (.int .i64) h_9 (a.add 1) fun (x_A1 : Int) =>
              Ld (.int .i64) h_9 (a.add 2) fun (x_B1 : Int) =>
              Ld (.int .i64) h_9 (a.add 3) fun (x_Site1 : Int) =>
              C_law14_do r1 (some p) (x_Kind1, x_A1, x_B1, x_Site1, ()) h_9 fun (r2 : Bool) h_10 =>
              (bif !r2 then
                R false h_10
              else
                Nn (some p) fun p1 =>
                Ld .sl h_10 (p1.add 4) fun (Flight : Sl) =>
                C_chase_Field_Flight r1 h_10 fun (r3 : Sl) h_11 =>
                (Ld .sl h_11 (p1.add 4) fun (Flight1 : Sl) => (.slice Flight1.a Flight1.n Flight1.c : Value) = .slice Flight.a Flight.n Flight.c) ∧
                C_law14_same_api_Probe r3 Flight h_11 fun (r4 : Bool) h_12 =>
                (bif !r4 then
                  R false h_12
                else
                  Nn (some p) fun p2 =>
                  Ld .sl h_12 (p2.add 5) fun (Victims : Sl) =>
                  C_chase_Field_Victims r1 h_12 fun (r5 : Sl) h_13 =>
                  (Ld .sl h_13 (p2.add 5) fun (Victims1 : Sl) => (.slice Victims1.a Victims1.n Victims1.c : Value) = .slice Victims.a Victims.n Victims.c) ∧
                  C_law14_same_int r5 Victims h_13 fun (r6 : Bool) h_14 =>
                  (bif !r6 then
                    R false h_14
                  else
                    go (IntKind.i64.wrap (x29 + 1)) h_14
                  )
                )
              )
            else
              R true h_4
            )
            ) (0, ()) h_3
        )
        ) fun J =>
      (bif decide (sites < 1) then
        J true h_1
      else
        J (decide (sites > 8)) h_1
      )
    )
  )
theorem E_law14_ChasePlays (sites : Int) (l : Sl) (h : Heap) (R : Bool → Heap → Prop) :
    VF Try.prog [(124, [(21, .one .bool)]), (1018, [(29, .one (.int .i64))])] Try.f10 [.int .i64 sites, .slice l.a l.n l.c] h [.one .bool] R = S_law14_ChasePlays sites l h R := by kernel_rfl
theorem A_law14_ChasePlays {sites : Int} {l : Sl} {h : Heap} {R : Bool → Heap → Prop} (hs : S_law14_ChasePlays sites l h R) : C_law14_ChasePlays sites l h R :=
  use_ Try.func10 (by kernel_rfl) (E_law14_ChasePlays sites l h R) hs

/-- kissinggatelaw14.ChaseSound -/
def S_law14_ChaseSound (sites : Int) (l : Sl) (h : Heap) (R : Bool → Heap → Prop) : Prop :=
  C_law14_fixed  h fun (r : Bool) h_ =>
  (bif !r then
    R false h_
  else
    (bif decide ((l.n : Int) > 80) then
      R true h_
    else
      Nz 8 (
      Let (IntKind.i64.wrap (1 + (IntKind.i64.wrap (divV .rem .u8 sites 8))) : Int) fun n =>
      C_chase_New n h_ fun (r1 : Option Addr) h_1 =>
      Alloc h_1 (.cells #[.int .i64 n, .slice none 0 0, .slice none 0 0, .slice none 0 0, .slice none 0 0, .slice none 0 0] 95) fun p h_2 =>
      Loop [.one (.int .i64)] (fun _ (x29 : Int) h_3 go =>
        (bif decide (x29 < (l.n : Int)) then
          Ix l x29 4 fun e =>
          Ld (.int .u8) h_3 e fun (x_Kind : Int) =>
          Ld (.int .i64) h_3 (e.add 1) fun (x_A : Int) =>
          Ld (.int .i64) h_3 (e.add 2) fun (x_B : Int) =>
          Ld (.int .i64) h_3 (e.add 3) fun (x_Site : Int) =>
          Alloc h_3 (.cells #[.int .u8 0, .int .i64 0, .int .i64 0, .int .i64 0] 97) fun a h_4 =>
          St h_4 a (.int .u8 x_Kind) fun h_5 =>
          St h_5 (a.add 1) (.int .i64 x_A) fun h_6 =>
          St h_6 (a.add 2) (.int .i64 x_B) fun h_7 =>
          St h_7 (a.add 3) (.int .i64 x_Site) fun h_8 =>
          Ld (.int .u8) h_8 a fun (x_Kind1 : Int) =>
          Ld (.int .i64) h_8 (a.add 1) fun (x_A1 : Int) =>
          Ld (.int .i64) h_8 (a.add 2) fun (x_B1 : Int) =>
          Ld (.int .i64) h_8 (a.add 3) fun (x_Site1 : Int) =>
          C_law14_do r1 (some p) (x_Kind1, x_A1, x_B1, x_Site1, ()) h_8 fun (r2 : Bool) h_9 =>
          go (IntKind.i64.wrap (x29 + 1)) h_9
        else
          C_law14_graph (some p) h_3 fun (r3 : Option Addr) h_10 =>
          C_ref13_Graph_Victims r3 h_10 fun (r4 : Sl) h_11 =>
          C_chase_Field_Victims r1 h_11 fun (r5 : Sl) h_12 =>
          Loop [.one (.int .i64)] (fun _ (x44 : Int) h_13 go1 =>
            (bif decide (x44 < (r5.n : Int)) then
              Ix r5 x44 1 fun e1 =>
              Ld (.int .i64) h_13 e1 fun (x : Int) =>
              C_law14_in r4 x h_13 fun (r6 : Bool) h_14 =>
              (bif !r6 then
                R false h_14
              else
                go1 (IntKind.i64.wrap (x44 + 1)) h_14
              )
            else
              R true h_13
            )
            ) (0, ()) h_12
        )
        ) (0, ()) h_2
      )
    )
  )
theorem E_law14_ChaseSound (sites : Int) (l : Sl) (h : Heap) (R : Bool → Heap → Prop) :
    VF Try.prog [(506, [(29, .one (.int .i64))]), (2042, [(44, .one (.int .i64))])] Try.f11 [.int .u8 sites, .slice l.a l.n l.c] h [.one .bool] R = S_law14_ChaseSound sites l h R := by kernel_rfl
theorem A_law14_ChaseSound {sites : Int} {l : Sl} {h : Heap} {R : Bool → Heap → Prop} (hs : S_law14_ChaseSound sites l h R) : C_law14_ChaseSound sites l h R :=
  use_ Try.func11 (by kernel_rfl) (E_law14_ChaseSound sites l h R) hs

/-- kissinggatelaw14.ChaseAll -/
def S_law14_ChaseAll (sites : Int) (l : Sl) (h : Heap) (R : Bool → Heap → Prop) : Prop :=
  C_law14_fixed  h fun (r : Bool) h_ =>
  (bif !r then
    R false h_
  else
    (bif decide ((l.n : Int) > 80) then
      R true h_
    else
      Nz 8 (
      Let (IntKind.i64.wrap (1 + (IntKind.i64.wrap (divV .rem .u8 sites 8))) : Int) fun n =>
      C_chase_New n h_ fun (r1 : Option Addr) h_1 =>
      Alloc h_1 (.cells #[.int .i64 n, .slice none 0 0, .slice none 0 0, .slice none 0 0, .slice none 0 0, .slice none 0 0] 95) fun p h_2 =>
      Loop [.one (.int .i64)] (fun _ (x28 : Int) h_3 go =>
        (bif decide (x28 < (l.n : Int)) then
          Ix l x28 4 fun e =>
          Ld (.int .u8) h_3 e fun (x_Kind : Int) =>
          Ld (.int .i64) h_3 (e.add 1) fun (x_A : Int) =>
          Ld (.int .i64) h_3 (e.add 2) fun (x_B : Int) =>
          Ld (.int .i64) h_3 (e.add 3) fun (x_Site : Int) =>
          Alloc h_3 (.cells #[.int .u8 0, .int .i64 0, .int .i64 0, .int .i64 0] 97) fun a h_4 =>
          St h_4 a (.int .u8 x_Kind) fun h_5 =>
          St h_5 (a.add 1) (.int .i64 x_A) fun h_6 =>
          St h_6 (a.add 2) (.int .i64 x_B) fun h_7 =>
          St h_7 (a.add 3) (.int .i64 x_Site) fun h_8 =>
          Ld (.int .u8) h_8 a fun (x_Kind1 : Int) =>
          Ld (.int .i64) h_8 (a.add 1) fun (x_A1 : Int) =>
          Ld (.int .i64) h_8 (a.add 2) fun (x_B1 : Int) =>
          Ld (.int .i64) h_8 (a.add 3) fun (x_Site1 : Int) =>
          C_law14_do r1 (some p) (x_Kind1, x_A1, x_B1, x_Site1, ()) h_8 fun (r2 : Bool) h_9 =>
          go (IntKind.i64.wrap (x28 + 1)) h_9
        else
          Nn (some p) fun p1 =>
          Ld .sl h_3 (p1.add 1) fun (N : Sl) =>
          Loop [.one (.int .i64)] (fun _ (x42 : Int) h_10 go1 =>
            (bif decide (x42 < (N.n : Int)) then
              Ix N x42 4 fun e1 =>
              Ld (.int .i64) h_10 e1 fun (x_ID : Int) =>
              Ld (.int .i64) h_10 (e1.add 1) fun (x_Stamp : Int) =>
              Ld (.int .i64) h_10 (e1.add 2) fun (x_Site2 : Int) =>
              Ld (.int .i64) h_10 (e1.add 3) fun (x_Round : Int) =>
              Alloc h_10 (.cells #[.int .i64 0, .int .i64 0, .int .i64 0, .int .i64 0] 108) fun x h_11 =>
              St h_11 x (.int .i64 x_ID) fun h_12 =>
              St h_12 (x.add 1) (.int .i64 x_Stamp) fun h_13 =>
              St h_13 (x.add 2) (.int .i64 x_Site2) fun h_14 =>
              St h_14 (x.add 3) (.int .i64 x_Round) fun h_15 =>
              Ld (.int .i64) h_15 x fun (ID : Int) =>
              C_chase_Field_Begin r1 ID h_15 fun (r3 : Int) (r4 : Int) h_16 =>
              C_chase_Field_Settle r1 20000 h_16 fun (r5 : Int) h_17 =>
              go1 (IntKind.i64.wrap (x42 + 1)) h_17
            else
              C_chase_Field_Flight r1 h_10 fun (r6 : Sl) h_18 =>
              (bif (r6.n : Int) == 0 then
                C_chase_Field_Victims r1 h_18 fun (r7 : Sl) h_19 =>
                C_law14_graph (some p) h_19 fun (r8 : Option Addr) h_20 =>
                C_ref13_Graph_Victims r8 h_20 fun (r9 : Sl) h_21 =>
                C_law14_same_int r7 r9 h_21 fun (r10 : Bool) h_22 =>
                R r10 h_22
              else
                R false h_18
              )
            )
            ) (0, ()) h_3
        )
        ) (0, ()) h_2
      )
    )
  )
theorem E_law14_ChaseAll (sites : Int) (l : Sl) (h : Heap) (R : Bool → Heap → Prop) :
    VF Try.prog [(506, [(28, .one (.int .i64))]), (1018, [(42, .one (.int .i64))])] Try.f12 [.int .u8 sites, .slice l.a l.n l.c] h [.one .bool] R = S_law14_ChaseAll sites l h R := by kernel_rfl
theorem A_law14_ChaseAll {sites : Int} {l : Sl} {h : Heap} {R : Bool → Heap → Prop} (hs : S_law14_ChaseAll sites l h R) : C_law14_ChaseAll sites l h R :=
  use_ Try.func12 (by kernel_rfl) (E_law14_ChaseAll sites l h R) hs

/-- kissinggatelaw14.fixed -/
def S_law14_fixed  (h : Heap) (R : Bool → Heap → Prop) : Prop :=
  C_chase_New 2 h fun (r : Option Addr) h_ =>
  C_chase_Field_Node r 1 5 0 h_ fun (r1 : Int) h_1 =>
  C_chase_Field_Node r 2 9 1 h_1 fun (r2 : Int) h_2 =>
  C_chase_Field_Edge r 1 2 h_2 fun (r3 : Int) h_3 =>
  C_chase_Field_Edge r 2 1 h_3 fun (r4 : Int) h_4 =>
  C_chase_Field_Begin r 1 h_4 fun (r5 : Int) (r6 : Int) h_5 =>
  C_chase_Field_Flight r h_5 fun (r7 : Sl) h_6 =>
  Let ((r7.n : Int) : Int) fun k =>
  C_chase_Field_Begin r 2 h_6 fun (r8 : Int) (r9 : Int) h_7 =>
  C_chase_Field_Flight r h_7 fun (r10 : Sl) h_8 =>
  C_chase_Field_Deliver r 0 h_8 fun (r11 : Int) (r12 : Bool) (r13 : Int) h_9 =>
  C_chase_Field_Deliver r 0 h_9 fun (r14 : Int) (r15 : Bool) (r16 : Int) h_10 =>
  C_chase_Field_Deliver r 0 h_10 fun (r17 : Int) (r18 : Bool) (r19 : Int) h_11 =>
  C_chase_Field_Victims r h_11 fun (r20 : Sl) h_12 =>
  C_chase_Field_Begin none 1 h_12 fun (r21 : Int) (r22 : Int) h_13 =>
  (bif r1 == 0 then
    (bif r2 == 0 then
      (bif r5 == 1 then
        (bif r6 == 0 then
          (bif k == 0 then
            (bif r8 == 1 then
              (bif (r10.n : Int) == 1 then
                Ix r10 0 4 fun e =>
                Ld (.int .i64) h_13 (e.add 3) fun (At_ : Int) =>
                (bif At_ == 1 then
                  Ix r10 0 4 fun e1 =>
                  Ld (.int .i64) h_13 e1 fun (Start : Int) =>
                  (bif Start == 2 then
                    (bif !r12 then
                      (bif r13 == 0 then
                        (bif r14 == 2 then
                          (bif r15 then
                            (bif r19 == 6 then
                              (bif (r20.n : Int) == 1 then
                                Ix r20 0 1 fun e2 =>
                                Ld (.int .i64) h_13 e2 fun (x : Int) =>
                                (bif x == 2 then
                                  C_chase_New 0 h_13 fun (r23 : Option Addr) h_14 =>
                                  (bif r23.isNone then
                                    (bif r22 == 1 then
                                      C_chase_Field_Settle none 9 h_14 fun (r24 : Int) h_15 =>
                                      (bif r24 == 0 then
                                        C_chase_Field_Node r 1 5 0 h_15 fun (r25 : Int) h_16 =>
                                        (bif r25 == 8 then
                                          C_chase_Field_Edge r 1 1 h_16 fun (r26 : Int) h_17 =>
                                          R (r26 == 1) h_17
                                        else
                                          R false h_16
                                        )
                                      else
                                        R false h_15
                                      )
                                    else
                                      R false h_14
                                    )
                                  else
                                    R false h_14
                                  )
                                else
                                  R false h_13
                                )
                              else
                                R false h_13
                              )
                            else
                              R false h_13
                            )
                          else
                            R false h_13
                          )
                        else
                          R false h_13
                        )
                      else
                        R false h_13
                      )
                    else
                      R false h_13
                    )
                  else
                    R false h_13
                  )
                else
                  R false h_13
                )
              else
                R false h_13
              )
            else
              R false h_13
            )
          else
            R false h_13
          )
        else
          R false h_13
        )
      else
        R false h_13
      )
    else
      R false h_13
    )
  else
    R false h_13
  )
theorem E_law14_fixed  (h : Heap) (R : Bool → Heap → Prop) :
    VF Try.prog [] Try.f15 [] h [.one .bool] R = S_law14_fixed  h R := by kernel_rfl
theorem A_law14_fixed  {h : Heap} {R : Bool → Heap → Prop} (hs : S_law14_fixed  h R) : C_law14_fixed  h R :=
  use_ Try.func15 (by kernel_rfl) (E_law14_fixed  h R) hs

/-- kissinggatelaw14.do -/
def S_law14_do (f : Option Addr) (r : Option Addr) (a : KL [.int .u8, .int .i64, .int .i64, .int .i64]) (h : Heap) (R : Bool → Heap → Prop) : Prop :=
  Alloc h (.cells #[.int .u8 a.1, .int .i64 a.2.1, .int .i64 a.2.2.1, .int .i64 a.2.2.2.1] 97) fun a1 h_ =>
  Ld (.int .u8) h_ a1 fun (Kind : Int) =>
  Nz 8 (
  Join [] (fun _ h_1 =>
    Ld (.int .i64) h_1 (a1.add 1) fun (A : Int) =>
    C_chase_Field_Deliver f A h_1 fun (r1 : Int) (r2 : Bool) (r3 : Int) h_2 =>
    Ld (.int .i64) h_2 (a1.add 1) fun (A1 : Int) =>
    C_ref14_Field_Deliver r A1 h_2 fun (r4 : Int) (r5 : Bool) (r6 : Int) h_3 =>
    (bif r1 == r4 then
      (bif r2 == r5 then
        R (r3 == r6) h_3
      else
        R false h_3
      )
    else
      R false h_3
    )
    ) fun J =>
  (bif (divV .rem .u8 Kind 8) == 0 then
    Ld (.int .i64) h_ (a1.add 1) fun (A2 : Int) =>
    Ld (.int .i64) h_ (a1.add 2) fun (B : Int) =>
    Ld (.int .i64) h_ (a1.add 3) fun (Site : Int) =>
    Ld (.int .i64) h_ (a1.add 1) fun (A3 : Int) =>
    Ld (.int .i64) h_ (a1.add 2) fun (B1 : Int) =>
    Ld (.int .i64) h_ (a1.add 3) fun (Site1 : Int) =>
    C_chase_Field_Node f A2 B Site h_ fun (r7 : Int) h_4 =>
    (Ld (.int .i64) h_4 (a1.add 1) fun (A4 : Int) => (.int .i64 A4 : Value) = .int .i64 A3) ∧
    (Ld (.int .i64) h_4 (a1.add 2) fun (B2 : Int) => (.int .i64 B2 : Value) = .int .i64 B1) ∧
    (Ld (.int .i64) h_4 (a1.add 3) fun (Site2 : Int) => (.int .i64 Site2 : Value) = .int .i64 Site1) ∧
    C_ref14_Field_Node r A3 B1 Site1 h_4 fun (r8 : Int) h_5 =>
    R (r7 == r8) h_5
  else
    Join [.one .bool] (fun _ (x41 : Bool) h_6 =>
      (bif x41 then
        Ld (.int .i64) h_6 (a1.add 1) fun (A5 : Int) =>
        Ld (.int .i64) h_6 (a1.add 2) fun (B3 : Int) =>
        Ld (.int .i64) h_6 (a1.add 1) fun (A6 : Int) =>
        Ld (.int .i64) h_6 (a1.add 2) fun (B4 : Int) =>
        C_chase_Field_Edge f A5 B3 h_6 fun (r9 : Int) h_7 =>
        (Ld (.int .i64) h_7 (a1.add 1) fun (A7 : Int) => (.int .i64 A7 : Value) = .int .i64 A6) ∧
        (Ld (.int .i64) h_7 (a1.add 2) fun (B5 : Int) => (.int .i64 B5 : Value) = .int .i64 B4) ∧
        C_ref14_Field_Edge r A6 B4 h_7 fun (r10 : Int) h_8 =>
        R (r9 == r10) h_8
      else
        (bif (divV .rem .u8 Kind 8) == 3 then
          Ld (.int .i64) h_6 (a1.add 1) fun (A8 : Int) =>
          C_chase_Field_Begin f A8 h_6 fun (r11 : Int) (r12 : Int) h_9 =>
          Ld (.int .i64) h_9 (a1.add 1) fun (A9 : Int) =>
          C_ref14_Field_Begin r A9 h_9 fun (r13 : Int) (r14 : Int) h_10 =>
          (bif r11 == r13 then
            R (r12 == r14) h_10
          else
            R false h_10
          )
        else
          (bif (divV .rem .u8 Kind 8) == 6 then
            Ld (.int .i64) h_6 (a1.add 1) fun (A10 : Int) =>
            C_ref14_Field_Take r A10 h_6 fun (r15 : KL [.int .i64, .int .i64, .int .i64, .int .i64]) (r16 : Int) h_11 =>
            Alloc h_11 (.cells #[.int .i64 0, .int .i64 0, .int .i64 0, .int .i64 0] 37) fun p h_12 =>
            St h_12 p (.int .i64 r15.1) fun h_13 =>
            St h_13 (p.add 1) (.int .i64 r15.2.1) fun h_14 =>
            St h_14 (p.add 2) (.int .i64 r15.2.2.1) fun h_15 =>
            St h_15 (p.add 3) (.int .i64 r15.2.2.2.1) fun h_16 =>
            Ld (.int .i64) h_16 (a1.add 1) fun (A11 : Int) =>
            C_chase_Field_Drop f A11 h_16 fun (r17 : Int) h_17 =>
            R (r17 == r16) h_17
          else
            (bif (divV .rem .u8 Kind 8) == 7 then
              Ld (.int .i64) h_6 (a1.add 1) fun (A12 : Int) =>
              Ld (.int .i64) h_6 (a1.add 1) fun (A13 : Int) =>
              C_chase_Field_Double f A12 h_6 fun (r18 : Int) h_18 =>
              (Ld (.int .i64) h_18 (a1.add 1) fun (A14 : Int) => (.int .i64 A14 : Value) = .int .i64 A13) ∧
              C_ref14_Field_Double r A13 h_18 fun (r19 : Int) h_19 =>
              R (r18 == r19) h_19
            else
              J  h_6
            )
          )
        )
      )
      ) fun J1 =>
    (bif (divV .rem .u8 Kind 8) == 1 then
      J1 ((divV .rem .u8 Kind 8) == 1) h_
    else
      J1 ((divV .rem .u8 Kind 8) == 2) h_
    )
  )
  )
theorem E_law14_do (f : Option Addr) (r : Option Addr) (a : KL [.int .u8, .int .i64, .int .i64, .int .i64]) (h : Heap) (R : Bool → Heap → Prop) :
    VF Try.prog [(13, []), (429, [(41, .one .bool)])] Try.f46 [.pointer f, .pointer r, .agg ⟨KL.vals [.int .u8, .int .i64, .int .i64, .int .i64] a⟩] h [.one .bool] R = S_law14_do f r a h R := by kernel_rfl
theorem A_law14_do {f : Option Addr} {r : Option Addr} {a : KL [.int .u8, .int .i64, .int .i64, .int .i64]} {h : Heap} {R : Bool → Heap → Prop} (hs : S_law14_do f r a h R) : C_law14_do f r a h R :=
  use_ Try.func46 (by kernel_rfl) (E_law14_do f r a h R) hs

/-- kissinggatelaw14.same[api.Probe] -/
def S_law14_same_api_Probe (a : Sl) (b : Sl) (h : Heap) (R : Bool → Heap → Prop) : Prop :=
  (bif (a.n : Int) != (b.n : Int) then
    R false h
  else
    Loop [.one (.int .i64)] (fun _ (x13 : Int) h_ go =>
      (bif decide (x13 < (a.n : Int)) then
        Ix a x13 4 fun e =>
        Ld (.int .i64) h_ e fun (x_Start : Int) =>
        Ld (.int .i64) h_ (e.add 1) fun (x_Stamp : Int) =>
        Ld (.int .i64) h_ (e.add 2) fun (x_Round : Int) =>
        Ld (.int .i64) h_ (e.add 3) fun (x_At : Int) =>
        Ix b x13 4 fun e1 =>
        Ld (.int .i64) h_ e1 fun (x_Start1 : Int) =>
        Ld (.int .i64) h_ (e1.add 1) fun (x_Stamp1 : Int) =>
        Ld (.int .i64) h_ (e1.add 2) fun (x_Round1 : Int) =>
        Ld (.int .i64) h_ (e1.add 3) fun (x_At1 : Int) =>
        OpV Try.prog (do eqGuard .neq 37 (.tmp 19) (.tmp 23) (.agg #[.int .i64 x_Start, .int .i64 x_Stamp, .int .i64 x_Round, .int .i64 x_At]) (.agg #[.int .i64 x_Start1, .int .i64 x_Stamp1, .int .i64 x_Round1, .int .i64 x_At1]); binOp .neq 37 (.agg #[.int .i64 x_Start, .int .i64 x_Stamp, .int .i64 x_Round, .int .i64 x_At]) (.agg #[.int .i64 x_Start1, .int .i64 x_Stamp1, .int .i64 x_Round1, .int .i64 x_At1])) h_ [.one .bool] fun (q : Bool) =>
        (bif q then
          R false h_
        else
          go (IntKind.i64.wrap (x13 + 1)) h_
        )
      else
        R true h_
      )
      ) (0, ()) h
  )
theorem E_law14_same_api_Probe (a : Sl) (b : Sl) (h : Heap) (R : Bool → Heap → Prop) :
    VF Try.prog [(58, [(13, .one (.int .i64))])] Try.f47 [.slice a.a a.n a.c, .slice b.a b.n b.c] h [.one .bool] R = S_law14_same_api_Probe a b h R := by kernel_rfl
theorem A_law14_same_api_Probe {a : Sl} {b : Sl} {h : Heap} {R : Bool → Heap → Prop} (hs : S_law14_same_api_Probe a b h R) : C_law14_same_api_Probe a b h R :=
  use_ Try.func47 (by kernel_rfl) (E_law14_same_api_Probe a b h R) hs

/-- kissinggatelaw14.same[int] -/
def S_law14_same_int (a : Sl) (b : Sl) (h : Heap) (R : Bool → Heap → Prop) : Prop :=
  (bif (a.n : Int) != (b.n : Int) then
    R false h
  else
    Loop [.one (.int .i64)] (fun _ (x13 : Int) h_ go =>
      (bif decide (x13 < (a.n : Int)) then
        Ix a x13 1 fun e =>
        Ld (.int .i64) h_ e fun (x : Int) =>
        Ix b x13 1 fun e1 =>
        Ld (.int .i64) h_ e1 fun (x1 : Int) =>
        (bif x != x1 then
          R false h_
        else
          go (IntKind.i64.wrap (x13 + 1)) h_
        )
      else
        R true h_
      )
      ) (0, ()) h
  )
theorem E_law14_same_int (a : Sl) (b : Sl) (h : Heap) (R : Bool → Heap → Prop) :
    VF Try.prog [(58, [(13, .one (.int .i64))])] Try.f48 [.slice a.a a.n a.c, .slice b.a b.n b.c] h [.one .bool] R = S_law14_same_int a b h R := by kernel_rfl
theorem A_law14_same_int {a : Sl} {b : Sl} {h : Heap} {R : Bool → Heap → Prop} (hs : S_law14_same_int a b h R) : C_law14_same_int a b h R :=
  use_ Try.func48 (by kernel_rfl) (E_law14_same_int a b h R) hs

/-- kissinggatelaw14.graph -/
def S_law14_graph (r : Option Addr) (h : Heap) (R : Option Addr → Heap → Prop) : Prop :=
  Nn r fun p =>
  Ld .sl h (p.add 2) fun (E : Sl) =>
  Alloc h (.cells #[.slice none 0 0, .slice E.a E.n E.c] 160) fun p1 h_ =>
  Nn r fun p2 =>
  Ld .sl h_ (p2.add 1) fun (N : Sl) =>
  Loop [.one (.int .i64)] (fun _ (x17 : Int) h_1 go =>
    (bif decide (x17 < (N.n : Int)) then
      Ix N x17 4 fun e =>
      Ld (.int .i64) h_1 e fun (x_ID : Int) =>
      Ld (.int .i64) h_1 (e.add 1) fun (x_Stamp : Int) =>
      Ld (.int .i64) h_1 (e.add 2) fun (x_Site : Int) =>
      Ld (.int .i64) h_1 (e.add 3) fun (x_Round : Int) =>
      Alloc h_1 (.cells #[.int .i64 0, .int .i64 0, .int .i64 0, .int .i64 0] 108) fun n h_2 =>
      St h_2 n (.int .i64 x_ID) fun h_3 =>
      St h_3 (n.add 1) (.int .i64 x_Stamp) fun h_4 =>
      St h_4 (n.add 2) (.int .i64 x_Site) fun h_5 =>
      St h_5 (n.add 3) (.int .i64 x_Round) fun h_6 =>
      Nn (some p1) fun p3 =>
      Ld .sl h_6 p3 fun (N1 : Sl) =>
      Ld (.int .i64) h_6 n fun (ID : Int) =>
      Ld (.int .i64) h_6 (n.add 1) fun (Stamp : Int) =>
      Alloc h_6 (.cells #[.int .i64 ID, .int .i64 Stamp] 162) fun b h_7 =>
      (Ld .sl h_7 p3 fun (N2 : Sl) => (.slice N2.a N2.n N2.c : Value) = .slice N1.a N1.n N1.c) ∧
      App Try.prog 158 158 N1 ⟨some b, 1, 1⟩ h_7 fun s h_8 =>
      Nn (some p1) fun p4 =>
      St h_8 p4 (.slice s.a s.n s.c) fun h_9 =>
      go (IntKind.i64.wrap (x17 + 1)) h_9
    else
      R (some p1) h_1
    )
    ) (0, ()) h_
theorem E_law14_graph (r : Option Addr) (h : Heap) (R : Option Addr → Heap → Prop) :
    VF Try.prog [(58, [(17, .one (.int .i64))])] Try.f50 [.pointer r] h [.one .ptr] R = S_law14_graph r h R := by kernel_rfl
theorem A_law14_graph {r : Option Addr} {h : Heap} {R : Option Addr → Heap → Prop} (hs : S_law14_graph r h R) : C_law14_graph r h R :=
  use_ Try.func50 (by kernel_rfl) (E_law14_graph r h R) hs

/-- kissinggatelaw14.in -/
def S_law14_in (l : Sl) (x : Int) (h : Heap) (R : Bool → Heap → Prop) : Prop :=
  Loop [.one (.int .i64)] (fun _ (x9 : Int) h_ go =>
    (bif decide (x9 < (l.n : Int)) then
      Ix l x9 1 fun e =>
      Ld (.int .i64) h_ e fun (x1 : Int) =>
      (bif x == x1 then
        R true h_
      else
        go (IntKind.i64.wrap (x9 + 1)) h_
      )
    else
      R false h_
    )
    ) (0, ()) h
theorem E_law14_in (l : Sl) (x : Int) (h : Heap) (R : Bool → Heap → Prop) :
    VF Try.prog [(26, [(9, .one (.int .i64))])] Try.f52 [.slice l.a l.n l.c, .int .i64 x] h [.one .bool] R = S_law14_in l x h R := by kernel_rfl
theorem A_law14_in {l : Sl} {x : Int} {h : Heap} {R : Bool → Heap → Prop} (hs : S_law14_in l x h R) : C_law14_in l x h R :=
  use_ Try.func52 (by kernel_rfl) (E_law14_in l x h R) hs

end Go.Proofs.Ytmpekddpehhdnaa
