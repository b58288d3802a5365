/- Printed by a program: what each function asks of the heap, that this is the reading of its code, and what follows for a call. -/
import Derived.Test.YtmpekddpehhdnaaSC
import Derived.Test.YtmpekddpehhdnaaProg
set_option maxRecDepth 1000000
namespace Go.Proofs.Ytmpekddpehhdnaa
open Go

/-- kissinggatelaw34.TwopcPlays -/
def S_law34_TwopcPlays (willing : Sl) (l : Sl) (h : Heap) (R : Bool → Heap → Prop) : Prop :=
  C_law34_fixed  h fun (r : Bool) h_ =>
  (bif !r then
    R false h_
  else
    (bif decide ((l.n : Int) > 80) then
      R true h_
    else
      (bif decide ((willing.n : Int) > 20) then
        R true h_
      else
        C_twopc_New willing h_ fun (r1 : Option Addr) h_1 =>
        (bif decide ((willing.n : Int) < 1) then
          R r1.isNone h_1
        else
          (bif decide ((willing.n : Int) > 7) then
            R r1.isNone h_1
          else
            C_ref34_New willing h_1 fun (r2 : Option Addr) h_2 =>
            Loop [.one (.int .i64)] (fun _ (x40 : Int) h_3 go =>
              (bif decide (x40 < (l.n : Int)) then
                Ix l x40 2 fun e =>
                Ld (.int .u8) h_3 e fun (x_Kind : Int) =>
                Ld (.int .i64) h_3 (e.add 1) fun (x_N : Int) =>
                Alloc h_3 (.cells #[.int .u8 0, .int .i64 0] 48) fun a h_4 =>
                St h_4 a (.int .u8 x_Kind) fun h_5 =>
                St h_5 (a.add 1) (.int .i64 x_N) fun h_6 =>
                Ld (.int .u8) h_6 a fun (x_Kind1 : Int) =>
                Ld (.int .i64) h_6 (a.add 1) fun (x_N1 : Int) =>
                Ld (.int .u8) h_6 a fun (x_Kind2 : Int) =>
                Ld (.int .i64) h_6 (a.add 1) fun (x_N2 : Int) =>
                C_law34_do r1 (x_Kind1, x_N1, ()) h_6 fun (r3 : Int) h_7 =>
                (Ld (.int .u8) h_7 a fun (x_Kind3 : Int) => Ld (.int .i64) h_7 (a.add 1) fun (x_N3 : Int) => (.agg #[.int .u8 x_Kind3, .int .i64 x_N3] : Value) = .agg #[.int .u8 x_Kind2, .int .i64 x_N2]) ∧
                C_law34_want r2 (x_Kind2, x_N2, ()) h_7 fun (r4 : Int) h_8 =>
                (bif r3 != r4 then
                  R false h_8
                else
                  C_twopc_Deal_Flight r1 h_8 fun (r5 : Sl) h_9 =>
                  Nn r2 fun p =>
                  Ld .sl h_9 (p.add 5) fun (Flight : Sl) =>
                  (bif (r5.n : Int) != (Flight.n : Int) then
                    R false h_9
                  else
                    Loop [.one (.int .i64)] (fun _ (x63 : Int) h_10 go1 =>
                      (bif decide (x63 < (r5.n : Int)) then
                        Ix r5 x63 2 fun e1 =>
                        Ld (.int .i64) h_10 e1 fun (Kind : Int) =>
                        Nn r2 fun p1 =>
                        Ld .sl h_10 (p1.add 5) fun (Flight1 : Sl) =>
                        Ix Flight1 x63 2 fun e2 =>
                        Ld (.int .i64) h_10 e2 fun (Kind1 : Int) =>
                        (bif Kind != Kind1 then
                          R false h_10
                        else
                          Ix r5 x63 2 fun e3 =>
                          Ld (.int .i64) h_10 (e3.add 1) fun (Who : Int) =>
                          Nn r2 fun p2 =>
                          Ld .sl h_10 (p2.add 5) fun (Flight2 : Sl) =>
                          Ix Flight2 x63 2 fun e4 =>
                          Ld (.int .i64) h_10 (e4.add 1) fun (Who1 : Int) =>
                          (bif Who != Who1 then
                            R false h_10
                          else
                            go1 (IntKind.i64.wrap (x63 + 1)) h_10
                          )
                        )
                      else
                        Let ((willing.n : Int) : Int) fun n =>
                        Loop [.one .bool, .one (.int .i64)] (fun _ (settled : Bool) (x100 : Int) h_11 go2 =>
                          (bif decide (x100 < n) then
                            Join [.one .bool] (fun _ (settled1 : Bool) h_12 =>
                              Nn r2 fun p3 =>
                              Ld .sl h_12 p3 fun (State : Sl) =>
                              Ix State x100 1 fun e5 =>
                              Ld (.int .i64) h_12 e5 fun (x : Int) =>
                              C_twopc_Deal_State r1 x100 h_12 fun (r6 : Int) h_13 =>
                              (Ld .sl h_13 p3 fun (State1 : Sl) => (.slice State1.a State1.n State1.c : Value) = .slice State.a State.n State.c) ∧
                              (Ld (.int .i64) h_13 e5 fun (x1 : Int) => (.int .i64 x1 : Value) = .int .i64 x) ∧
                              (bif r6 != x then
                                R false h_13
                              else
                                Nn r2 fun p4 =>
                                Ld .sl h_13 (p4.add 1) fun (Down : Sl) =>
                                Ix Down x100 1 fun e6 =>
                                Ld .bool h_13 e6 fun (x2 : Bool) =>
                                C_twopc_Deal_Up r1 x100 h_13 fun (r7 : Bool) h_14 =>
                                (Ld .sl h_14 (p4.add 1) fun (Down1 : Sl) => (.slice Down1.a Down1.n Down1.c : Value) = .slice Down.a Down.n Down.c) ∧
                                (Ld .bool h_14 e6 fun (x3 : Bool) => (.bool x3 : Value) = .bool x2) ∧
                                (bif r7 == x2 then
                                  R false h_14
                                else
                                  go2 settled1 (IntKind.i64.wrap (x100 + 1)) h_14
                                )
                              )
                              ) fun J =>
                            (bif settled then
                              Nn r2 fun p5 =>
                              Ld .sl h_11 p5 fun (State2 : Sl) =>
                              Ix State2 x100 1 fun e7 =>
                              Ld (.int .i64) h_11 e7 fun (x4 : Int) =>
                              Nn r2 fun p6 =>
                              Ld .sl h_11 p6 fun (State3 : Sl) =>
                              Ix State3 n 1 fun e8 =>
                              Ld (.int .i64) h_11 e8 fun (x5 : Int) =>
                              Let (x4 == x5 : Bool) fun settled2 =>
                              J settled2 h_11
                            else
                              J false h_11
                            )
                          else
                            Nn r2 fun p7 =>
                            Ld .sl h_11 p7 fun (State4 : Sl) =>
                            Ix State4 n 1 fun e9 =>
                            Ld (.int .i64) h_11 e9 fun (x6 : Int) =>
                            C_twopc_Deal_State r1 (-1) h_11 fun (r8 : Int) h_15 =>
                            (Ld .sl h_15 p7 fun (State5 : Sl) => (.slice State5.a State5.n State5.c : Value) = .slice State4.a State4.n State4.c) ∧
                            (Ld (.int .i64) h_15 e9 fun (x7 : Int) => (.int .i64 x7 : Value) = .int .i64 x6) ∧
                            (bif r8 != x6 then
                              R false h_15
                            else
                              Nn r2 fun p8 =>
                              Ld .sl h_15 (p8.add 1) fun (Down2 : Sl) =>
                              Ix Down2 n 1 fun e10 =>
                              Ld .bool h_15 e10 fun (x8 : Bool) =>
                              C_twopc_Deal_Up r1 (-1) h_15 fun (r9 : Bool) h_16 =>
                              (Ld .sl h_16 (p8.add 1) fun (Down3 : Sl) => (.slice Down3.a Down3.n Down3.c : Value) = .slice Down2.a Down2.n Down2.c) ∧
                              (Ld .bool h_16 e10 fun (x9 : Bool) => (.bool x9 : Value) = .bool x8) ∧
                              (bif r9 == x8 then
                                R false h_16
                              else
                                C_twopc_Deal_Settled r1 h_16 fun (r10 : Bool) h_17 =>
                                (bif settled then
                                  Nn r2 fun p9 =>
                                  Ld .sl h_17 p9 fun (State6 : Sl) =>
                                  Ix State6 n 1 fun e11 =>
                                  Ld (.int .i64) h_17 e11 fun (x10 : Int) =>
                                  (bif !(r10 == (decide (x10 > 1))) then
                                    R false h_17
                                  else
                                    go (IntKind.i64.wrap (x40 + 1)) h_17
                                  )
                                else
                                  (bif !(r10 == false) then
                                    R false h_17
                                  else
                                    go (IntKind.i64.wrap (x40 + 1)) h_17
                                  )
                                )
                              )
                            )
                          )
                          ) (true, 0, ()) h_10
                      )
                      ) (0, ()) h_9
                  )
                )
              else
                R true h_3
              )
              ) (0, ()) h_2
          )
        )
      )
    )
  )
theorem E_law34_TwopcPlays (willing : Sl) (l : Sl) (h : Heap) (R : Bool → Heap → Prop) :
    VF Try.prog [(1018, [(40, .one (.int .i64))]), (4171386, [(63, .one (.int .i64))]), (33371130, [(11, .one .bool), (100, .one (.int .i64))]), (4271504690, [(11, .one .bool)])] Try.f4 [.slice willing.a willing.n willing.c, .slice l.a l.n l.c] h [.one .bool] R = S_law34_TwopcPlays willing l h R := by kernel_rfl
theorem A_law34_TwopcPlays {willing : Sl} {l : Sl} {h : Heap} {R : Bool → Heap → Prop} (hs : S_law34_TwopcPlays willing l h R) : C_law34_TwopcPlays willing l h R :=
  use_ Try.func4 (by kernel_rfl) (E_law34_TwopcPlays willing l h R) hs

/-- kissinggatelaw34.TwopcAtomic -/
def S_law34_TwopcAtomic (willing : Sl) (l : Sl) (h : Heap) (R : Bool → Heap → Prop) : Prop :=
  C_law34_fixed  h fun (r : Bool) h_ =>
  (bif !r then
    R false h_
  else
    (bif decide ((l.n : Int) > 120) then
      R true h_
    else
      (bif decide ((willing.n : Int) < 1) then
        R true h_
      else
        (bif decide ((willing.n : Int) > 7) then
          R true h_
        else
          C_twopc_New willing h_ fun (r1 : Option Addr) h_1 =>
          Loop [.one .bool, .one (.int .i64)] (fun _ (all : Bool) (x35 : Int) h_2 go =>
            (bif decide (x35 < (willing.n : Int)) then
              Ix willing x35 1 fun e =>
              Ld .bool h_2 e fun (x : Bool) =>
              (bif all then
                go x (IntKind.i64.wrap (x35 + 1)) h_2
              else
                go false (IntKind.i64.wrap (x35 + 1)) h_2
              )
            else
              Mk Try.prog 53 (IntKind.i64.wrap ((willing.n : Int) + 1)) (IntKind.i64.wrap ((willing.n : Int) + 1)) h_2 fun s h_3 =>
              Loop [.one (.int .i64)] (fun _ (x50 : Int) h_4 go1 =>
                (bif decide (x50 < (l.n : Int)) then
                  Ix l x50 2 fun e1 =>
                  Ld (.int .u8) h_4 e1 fun (x_Kind : Int) =>
                  Ld (.int .i64) h_4 (e1.add 1) fun (x_N : Int) =>
                  Alloc h_4 (.cells #[.int .u8 0, .int .i64 0] 48) fun a h_5 =>
                  St h_5 a (.int .u8 x_Kind) fun h_6 =>
                  St h_6 (a.add 1) (.int .i64 x_N) fun h_7 =>
                  Ld (.int .u8) h_7 a fun (x_Kind1 : Int) =>
                  Ld (.int .i64) h_7 (a.add 1) fun (x_N1 : Int) =>
                  C_law34_do r1 (x_Kind1, x_N1, ()) h_7 fun (r2 : Int) h_8 =>
                  Let (-1 : Int) fun i =>
                  Loop [.one .bool, .one .bool, .one (.int .i64)] (fun _ (committed : Bool) (aborted : Bool) (i1 : Int) h_9 go2 =>
                    (bif decide (i1 < (willing.n : Int)) then
                      C_twopc_Deal_State r1 i1 h_9 fun (r3 : Int) h_10 =>
                      Join [.one .bool] (fun _ (committed1 : Bool) h_11 =>
                        Join [.one .bool] (fun _ (aborted1 : Bool) h_12 =>
                          Ix s (IntKind.i64.wrap (i1 + 1)) 1 fun e2 =>
                          Ld (.int .i64) h_12 e2 fun (x1 : Int) =>
                          (bif decide (x1 ≥ 2) then
                            Ix s (IntKind.i64.wrap (i1 + 1)) 1 fun e3 =>
                            Ld (.int .i64) h_12 e3 fun (x2 : Int) =>
                            (bif x2 != r3 then
                              R false h_12
                            else
                              Ix s (IntKind.i64.wrap (i1 + 1)) 1 fun e4 =>
                              St h_12 e4 (.int .i64 r3) fun h_13 =>
                              Let (IntKind.i64.wrap (i1 + 1) : Int) fun i2 =>
                              go2 committed1 aborted1 i2 h_13
                            )
                          else
                            Ix s (IntKind.i64.wrap (i1 + 1)) 1 fun e5 =>
                            St h_12 e5 (.int .i64 r3) fun h_14 =>
                            Let (IntKind.i64.wrap (i1 + 1) : Int) fun i3 =>
                            go2 committed1 aborted1 i3 h_14
                          )
                          ) fun J1 =>
                        (bif aborted then
                          J1 true h_11
                        else
                          Let (r3 == 3 : Bool) fun aborted2 =>
                          J1 aborted2 h_11
                        )
                        ) fun J =>
                      (bif committed then
                        J true h_10
                      else
                        Let (r3 == 2 : Bool) fun committed2 =>
                        J committed2 h_10
                      )
                    else
                      (bif committed then
                        (bif aborted then
                          R false h_9
                        else
                          (bif !all then
                            R false h_9
                          else
                            go1 (IntKind.i64.wrap (x50 + 1)) h_9
                          )
                        )
                      else
                        go1 (IntKind.i64.wrap (x50 + 1)) h_9
                      )
                    )
                    ) (false, false, i, ()) h_8
                else
                  R true h_4
                )
                ) (0, ()) h_3
            )
            ) (true, 0, ()) h_1
        )
      )
    )
  )
theorem E_law34_TwopcAtomic (willing : Sl) (l : Sl) (h : Heap) (R : Bool → Heap → Prop) :
    VF Try.prog [(506, [(6, .one .bool), (35, .one (.int .i64))]), (2042, [(50, .one (.int .i64))]), (4182842, [(12, .one .bool), (13, .one .bool), (14, .one (.int .i64))]), (267701906, [(12, .one .bool)]), (535403814, [(13, .one .bool)])] Try.f5 [.slice willing.a willing.n willing.c, .slice l.a l.n l.c] h [.one .bool] R = S_law34_TwopcAtomic willing l h R := by kernel_rfl
theorem A_law34_TwopcAtomic {willing : Sl} {l : Sl} {h : Heap} {R : Bool → Heap → Prop} (hs : S_law34_TwopcAtomic willing l h R) : C_law34_TwopcAtomic willing l h R :=
  use_ Try.func5 (by kernel_rfl) (E_law34_TwopcAtomic willing l h R) hs

/-- kissinggatelaw34.TwopcEnds -/
def S_law34_TwopcEnds (willing : Sl) (l : Sl) (h : Heap) (R : Bool → Heap → Prop) : Prop :=
  C_law34_fixed  h fun (r : Bool) h_ =>
  (bif !r then
    R false h_
  else
    (bif decide ((l.n : Int) > 80) then
      R true h_
    else
      (bif decide ((willing.n : Int) < 1) then
        R true h_
      else
        (bif decide ((willing.n : Int) > 7) then
          R true h_
        else
          C_twopc_New willing h_ fun (r1 : Option Addr) h_1 =>
          Loop [.one (.int .i64)] (fun _ (x28 : Int) h_2 go =>
            (bif decide (x28 < (l.n : Int)) then
              Ix l x28 2 fun e =>
              Ld (.int .u8) h_2 e fun (x_Kind : Int) =>
              Ld (.int .i64) h_2 (e.add 1) fun (x_N : Int) =>
              Alloc h_2 (.cells #[.int .u8 0, .int .i64 0] 48) fun a h_3 =>
              St h_3 a (.int .u8 x_Kind) fun h_4 =>
              St h_4 (a.add 1) (.int .i64 x_N) fun h_5 =>
              Ld (.int .u8) h_5 a fun (x_Kind1 : Int) =>
              Ld (.int .i64) h_5 (a.add 1) fun (x_N1 : Int) =>
              C_law34_do r1 (x_Kind1, x_N1, ()) h_5 fun (r2 : Int) h_6 =>
              go (IntKind.i64.wrap (x28 + 1)) h_6
            else
              Let (-1 : Int) fun i =>
              Loop [.one (.int .i64)] (fun _ (i1 : Int) h_7 go1 =>
                (bif decide (i1 < (willing.n : Int)) then
                  C_twopc_Deal_Start r1 i1 h_7 fun (r3 : Int) h_8 =>
                  Let (IntKind.i64.wrap (i1 + 1) : Int) fun i2 =>
                  go1 i2 h_8
                else
                  Loop [.one (.int .i64)] (fun _ (x45 : Int) h_9 go2 =>
                    (bif decide (x45 < 2) then
                      C_twopc_Deal_Begin r1 h_9 fun (r4 : Int) h_10 =>
                      (bif r4 != 0 then
                        R false h_10
                      else
                        C_twopc_Deal_Settle r1 20000 h_10 fun (r5 : Int) h_11 =>
                        go2 (IntKind.i64.wrap (x45 + 1)) h_11
                      )
                    else
                      C_twopc_Deal_Settled r1 h_9 fun (r6 : Bool) h_12 =>
                      (bif r6 then
                        C_twopc_Deal_Flight r1 h_12 fun (r7 : Sl) h_13 =>
                        R ((r7.n : Int) == 0) h_13
                      else
                        R false h_12
                      )
                    )
                    ) (0, ()) h_7
                )
                ) (i, ()) h_2
            )
            ) (0, ()) h_1
        )
      )
    )
  )
theorem E_law34_TwopcEnds (willing : Sl) (l : Sl) (h : Heap) (R : Bool → Heap → Prop) :
    VF Try.prog [(250, [(28, .one (.int .i64))]), (506, [(8, .one (.int .i64))]), (1018, [(45, .one (.int .i64))])] Try.f6 [.slice willing.a willing.n willing.c, .slice l.a l.n l.c] h [.one .bool] R = S_law34_TwopcEnds willing l h R := by kernel_rfl
theorem A_law34_TwopcEnds {willing : Sl} {l : Sl} {h : Heap} {R : Bool → Heap → Prop} (hs : S_law34_TwopcEnds willing l h R) : C_law34_TwopcEnds willing l h R :=
  use_ Try.func6 (by kernel_rfl) (E_law34_TwopcEnds willing l h R) hs

/-- kissinggatelaw34.TwopcWilling -/
def S_law34_TwopcWilling (willing : Sl) (order : Sl) (h : Heap) (R : Bool → Heap → Prop) : Prop :=
  C_law34_fixed  h fun (r : Bool) h_ =>
  (bif !r then
    R false h_
  else
    (bif decide ((order.n : Int) > 100) then
      R true h_
    else
      (bif decide ((willing.n : Int) < 1) then
        R true h_
      else
        (bif decide ((willing.n : Int) > 7) then
          R true h_
        else
          C_twopc_New willing h_ fun (r1 : Option Addr) h_1 =>
          Loop [.one .bool, .one (.int .i64)] (fun _ (all : Bool) (x31 : Int) h_2 go =>
            (bif decide (x31 < (willing.n : Int)) then
              Ix willing x31 1 fun e =>
              Ld .bool h_2 e fun (x : Bool) =>
              (bif all then
                go x (IntKind.i64.wrap (x31 + 1)) h_2
              else
                go false (IntKind.i64.wrap (x31 + 1)) h_2
              )
            else
              C_twopc_Deal_Begin r1 h_2 fun (r2 : Int) h_3 =>
              (bif r2 != 0 then
                R false h_3
              else
                Join [] (fun _ h_4 =>
                  C_twopc_Deal_Settle r1 20000 h_4 fun (r3 : Int) h_5 =>
                  C_twopc_Deal_Settled r1 h_5 fun (r4 : Bool) h_6 =>
                  (bif r4 then
                    C_twopc_Deal_State r1 (-1) h_6 fun (r5 : Int) h_7 =>
                    R ((r5 == 2) == all) h_7
                  else
                    R false h_6
                  )
                  ) fun J =>
                Loop [.one (.int .i64)] (fun _ (x45 : Int) h_8 go1 =>
                  (bif decide (x45 < (order.n : Int)) then
                    Ix order x45 1 fun e1 =>
                    Ld (.int .u8) h_8 e1 fun (x1 : Int) =>
                    C_twopc_Deal_Flight r1 h_8 fun (r6 : Sl) h_9 =>
                    Let ((r6.n : Int) : Int) fun n =>
                    (bif n == 0 then
                      J  h_9
                    else
                      Join [] (fun _ h_10 =>
                        Nz n (
                        C_twopc_Deal_Deliver r1 (divV .rem .i64 (IntKind.i64.wrap x1) n) h_10 fun (r7 : Int) h_11 =>
                        go1 (IntKind.i64.wrap (x45 + 1)) h_11
                        )
                        ) fun J1 =>
                      (bif decide (x1 ≥ 200) then
                        Nz n (
                        C_twopc_Deal_Double r1 (divV .rem .i64 (IntKind.i64.wrap x1) n) h_9 fun (r8 : Int) h_12 =>
                        J1  h_12
                        )
                      else
                        J1  h_9
                      )
                    )
                  else
                    J  h_8
                  )
                  ) (0, ()) h_3
              )
            )
            ) (true, 0, ()) h_1
        )
      )
    )
  )
theorem E_law34_TwopcWilling (willing : Sl) (order : Sl) (h : Heap) (R : Bool → Heap → Prop) :
    VF Try.prog [(506, [(6, .one .bool), (31, .one (.int .i64))]), (1021, []), (2042, [(45, .one (.int .i64))]), (2091421, [])] Try.f7 [.slice willing.a willing.n willing.c, .slice order.a order.n order.c] h [.one .bool] R = S_law34_TwopcWilling willing order h R := by kernel_rfl
theorem A_law34_TwopcWilling {willing : Sl} {order : Sl} {h : Heap} {R : Bool → Heap → Prop} (hs : S_law34_TwopcWilling willing order h R) : C_law34_TwopcWilling willing order h R :=
  use_ Try.func7 (by kernel_rfl) (E_law34_TwopcWilling willing order h R) hs

/-- kissinggatelaw34.fixed -/
def S_law34_fixed  (h : Heap) (R : Bool → Heap → Prop) : Prop :=
  Alloc h (.cells #[.bool true, .bool true] 4) fun b h_ =>
  C_twopc_New ⟨some b, 2, 2⟩ h_ fun (r : Option Addr) h_1 =>
  C_twopc_Deal_Begin r h_1 fun (r1 : Int) h_2 =>
  C_twopc_Deal_Flight r h_2 fun (r2 : Sl) h_3 =>
  C_twopc_Deal_Settle r 100 h_3 fun (r3 : Int) h_4 =>
  Alloc h_4 (.cells #[.bool true, .bool false] 4) fun b1 h_5 =>
  C_twopc_New ⟨some b1, 2, 2⟩ h_5 fun (r4 : Option Addr) h_6 =>
  C_twopc_Deal_Begin r4 h_6 fun (r5 : Int) h_7 =>
  C_twopc_Deal_Settle r4 100 h_7 fun (r6 : Int) h_8 =>
  C_twopc_Deal_GiveUp r4 h_8 fun (r7 : Int) h_9 =>
  C_twopc_Deal_Crash r4 (-1) h_9 fun (r8 : Int) h_10 =>
  C_twopc_Deal_Begin r4 h_10 fun (r9 : Int) h_11 =>
  C_twopc_Deal_Start r4 (-1) h_11 fun (r10 : Int) h_12 =>
  (bif r1 == 0 then
    (bif (r2.n : Int) == 2 then
      Ix r2 0 2 fun e =>
      Ld (.int .i64) h_12 e fun (Kind : Int) =>
      (bif Kind == 1 then
        Ix r2 1 2 fun e1 =>
        Ld (.int .i64) h_12 (e1.add 1) fun (Who : Int) =>
        (bif Who == 1 then
          (bif r3 == 8 then
            C_twopc_Deal_Settled r h_12 fun (r11 : Bool) h_13 =>
            (bif r11 then
              C_twopc_Deal_State r (-1) h_13 fun (r12 : Int) h_14 =>
              (bif r12 == 2 then
                C_twopc_Deal_State r 1 h_14 fun (r13 : Int) h_15 =>
                (bif r13 == 2 then
                  C_twopc_Deal_Settled r4 h_15 fun (r14 : Bool) h_16 =>
                  (bif r14 then
                    C_twopc_Deal_State r4 0 h_16 fun (r15 : Int) h_17 =>
                    (bif r15 == 3 then
                      (bif r7 == 8 then
                        (bif r8 == 0 then
                          (bif r9 == 12 then
                            (bif r10 == 0 then
                              C_twopc_Deal_Up r4 (-1) h_17 fun (r16 : Bool) h_18 =>
                              (bif r16 then
                                C_twopc_Deal_Up r4 2 h_18 fun (r17 : Bool) h_19 =>
                                (bif !r17 then
                                  C_twopc_Deal_Crash r4 2 h_19 fun (r18 : Int) h_20 =>
                                  (bif r18 == 6 then
                                    C_twopc_New ⟨none, 0, 0⟩ h_20 fun (r19 : Option Addr) h_21 =>
                                    (bif r19.isNone then
                                      C_twopc_Deal_Begin none h_21 fun (r20 : Int) h_22 =>
                                      (bif r20 == 1 then
                                        C_twopc_Deal_State none 0 h_22 fun (r21 : Int) h_23 =>
                                        R (bif r21 == 0 then true else false) h_23
                                      else
                                        R false h_22
                                      )
                                    else
                                      R false h_21
                                    )
                                  else
                                    R false h_20
                                  )
                                else
                                  R false h_19
                                )
                              else
                                R false h_18
                              )
                            else
                              R false h_17
                            )
                          else
                            R false h_17
                          )
                        else
                          R false h_17
                        )
                      else
                        R false h_17
                      )
                    else
                      R false h_17
                    )
                  else
                    R false h_16
                  )
                else
                  R false h_15
                )
              else
                R false h_14
              )
            else
              R false h_13
            )
          else
            R false h_12
          )
        else
          R false h_12
        )
      else
        R false h_12
      )
    else
      R false h_12
    )
  else
    R false h_12
  )
theorem E_law34_fixed  (h : Heap) (R : Bool → Heap → Prop) :
    VF Try.prog [] Try.f22 [] h [.one .bool] R = S_law34_fixed  h R := by kernel_rfl
theorem A_law34_fixed  {h : Heap} {R : Bool → Heap → Prop} (hs : S_law34_fixed  h R) : C_law34_fixed  h R :=
  use_ Try.func22 (by kernel_rfl) (E_law34_fixed  h R) hs

/-- kissinggatelaw34.do -/
def S_law34_do (d : Option Addr) (a : KL [.int .u8, .int .i64]) (h : Heap) (R : Int → Heap → Prop) : Prop :=
  Alloc h (.cells #[.int .u8 a.1, .int .i64 a.2.1] 48) fun a1 h_ =>
  Ld (.int .u8) h_ a1 fun (Kind : Int) =>
  Nz 9 (
  (bif (divV .rem .u8 Kind 9) == 0 then
    C_twopc_Deal_Begin d h_ fun (r : Int) h_1 =>
    R r h_1
  else
    (bif (divV .rem .u8 Kind 9) == 1 then
      C_twopc_Deal_GiveUp d h_ fun (r1 : Int) h_2 =>
      R r1 h_2
    else
      (bif (divV .rem .u8 Kind 9) == 5 then
        Ld (.int .i64) h_ (a1.add 1) fun (N : Int) =>
        C_twopc_Deal_Drop d N h_ fun (r2 : Int) h_3 =>
        R r2 h_3
      else
        (bif (divV .rem .u8 Kind 9) == 6 then
          Ld (.int .i64) h_ (a1.add 1) fun (N1 : Int) =>
          C_twopc_Deal_Double d N1 h_ fun (r3 : Int) h_4 =>
          R r3 h_4
        else
          (bif (divV .rem .u8 Kind 9) == 7 then
            Ld (.int .i64) h_ (a1.add 1) fun (N2 : Int) =>
            C_twopc_Deal_Crash d N2 h_ fun (r4 : Int) h_5 =>
            R r4 h_5
          else
            (bif (divV .rem .u8 Kind 9) == 8 then
              Ld (.int .i64) h_ (a1.add 1) fun (N3 : Int) =>
              C_twopc_Deal_Start d N3 h_ fun (r5 : Int) h_6 =>
              R r5 h_6
            else
              Ld (.int .i64) h_ (a1.add 1) fun (N4 : Int) =>
              C_twopc_Deal_Deliver d N4 h_ fun (r6 : Int) h_7 =>
              R r6 h_7
            )
          )
        )
      )
    )
  )
  )
theorem E_law34_do (d : Option Addr) (a : KL [.int .u8, .int .i64]) (h : Heap) (R : Int → Heap → Prop) :
    VF Try.prog [] Try.f25 [.pointer d, .agg ⟨KL.vals [.int .u8, .int .i64] a⟩] h [.one (.int .i64)] R = S_law34_do d a h R := by kernel_rfl
theorem A_law34_do {d : Option Addr} {a : KL [.int .u8, .int .i64]} {h : Heap} {R : Int → Heap → Prop} (hs : S_law34_do d a h R) : C_law34_do d a h R :=
  use_ Try.func25 (by kernel_rfl) (E_law34_do d a h R) hs

/-- kissinggatelaw34.want -/
def S_law34_want (d : Option Addr) (a : KL [.int .u8, .int .i64]) (h : Heap) (R : Int → Heap → Prop) : Prop :=
  Alloc h (.cells #[.int .u8 a.1, .int .i64 a.2.1] 48) fun a1 h_ =>
  Ld (.int .u8) h_ a1 fun (Kind : Int) =>
  Nz 9 (
  (bif (divV .rem .u8 Kind 9) == 0 then
    C_ref34_Deal_Begin d h_ fun (r : Int) h_1 =>
    R r h_1
  else
    (bif (divV .rem .u8 Kind 9) == 1 then
      C_ref34_Deal_GiveUp d h_ fun (r1 : Int) h_2 =>
      R r1 h_2
    else
      (bif (divV .rem .u8 Kind 9) == 5 then
        Ld (.int .i64) h_ (a1.add 1) fun (N : Int) =>
        C_ref34_Deal_Drop d N h_ fun (r2 : Int) h_3 =>
        R r2 h_3
      else
        (bif (divV .rem .u8 Kind 9) == 6 then
          Ld (.int .i64) h_ (a1.add 1) fun (N1 : Int) =>
          C_ref34_Deal_Double d N1 h_ fun (r3 : Int) h_4 =>
          R r3 h_4
        else
          (bif (divV .rem .u8 Kind 9) == 7 then
            Ld (.int .i64) h_ (a1.add 1) fun (N2 : Int) =>
            C_ref34_Deal_Crash d N2 h_ fun (r4 : Int) h_5 =>
            R r4 h_5
          else
            (bif (divV .rem .u8 Kind 9) == 8 then
              Ld (.int .i64) h_ (a1.add 1) fun (N3 : Int) =>
              C_ref34_Deal_Start d N3 h_ fun (r5 : Int) h_6 =>
              R r5 h_6
            else
              Ld (.int .i64) h_ (a1.add 1) fun (N4 : Int) =>
              C_ref34_Deal_Deliver d N4 h_ fun (r6 : Int) h_7 =>
              R r6 h_7
            )
          )
        )
      )
    )
  )
  )
theorem E_law34_want (d : Option Addr) (a : KL [.int .u8, .int .i64]) (h : Heap) (R : Int → Heap → Prop) :
    VF Try.prog [] Try.f26 [.pointer d, .agg ⟨KL.vals [.int .u8, .int .i64] a⟩] h [.one (.int .i64)] R = S_law34_want d a h R := by kernel_rfl
theorem A_law34_want {d : Option Addr} {a : KL [.int .u8, .int .i64]} {h : Heap} {R : Int → Heap → Prop} (hs : S_law34_want d a h R) : C_law34_want d a h R :=
  use_ Try.func26 (by kernel_rfl) (E_law34_want d a h R) hs

end Go.Proofs.Ytmpekddpehhdnaa
