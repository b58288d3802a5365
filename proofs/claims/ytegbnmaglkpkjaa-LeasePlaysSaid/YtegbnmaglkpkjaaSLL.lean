/- Printed by a program: what each function asks of the heap, that this is the reading of its code, and what follows for a call. -/
import Derived.Test.YtegbnmaglkpkjaaSC
import Derived.Test.YtegbnmaglkpkjaaProg
set_option maxRecDepth 1000000
namespace Go.Proofs.Ytegbnmaglkpkjaa
open Go

/-- kissinggatelaw30.LeasePlays -/
def S_law30_LeasePlays (n : Int) (length : Int) (skew : Int) (l : Sl) (h : Heap) (R : Bool → Heap → Prop) : Prop :=
  C_law30_fixed  h fun (r : Bool) h_ =>
  (bif !r then
    R false h_
  else
    (bif decide ((l.n : Int) > 100) then
      R true h_
    else
      C_lease_New n length skew h_ fun (r1 : Option Addr) h_1 =>
      (bif decide (n < 1) then
        R r1.isNone h_1
      else
        (bif decide (n > 7) then
          R r1.isNone h_1
        else
          (bif decide (length < 1) then
            R r1.isNone h_1
          else
            (bif decide (length > 64) then
              R r1.isNone h_1
            else
              (bif decide (skew < 1) then
                R r1.isNone h_1
              else
                (bif decide (skew > 64) then
                  R r1.isNone h_1
                else
                  (bif decide ((IntKind.i64.wrap (2 * skew)) ≥ length) then
                    R r1.isNone h_1
                  else
                    C_ref30_New n length skew h_1 fun (r2 : Option Addr) h_2 =>
                    Loop [.one (.int .i64)] (fun _ (x65 : Int) h_3 go =>
                      (bif decide (x65 < (l.n : Int)) then
                        Ix l x65 2 fun e =>
                        Ld (.int .u8) h_3 e fun (x_Kind : Int) =>
                        Ld (.int .i64) h_3 (e.add 1) fun (x_N : Int) =>
                        Alloc h_3 (.cells #[.int .u8 0, .int .i64 0] 46) fun a h_4 =>
                        St h_4 a (.int .u8 x_Kind) fun h_5 =>
                        St h_5 (a.add 1) (.int .i64 x_N) fun h_6 =>
                        Ld (.int .u8) h_6 a fun (x_Kind1 : Int) =>
                        Ld (.int .i64) h_6 (a.add 1) fun (x_N1 : Int) =>
                        C_law30_do r1 (x_Kind1, x_N1, ()) h_6 fun (r3 : Int) (r4 : Int) h_7 =>
                        Ld (.int .u8) h_7 a fun (x_Kind2 : Int) =>
                        Ld (.int .i64) h_7 (a.add 1) fun (x_N2 : Int) =>
                        C_law30_want r2 (x_Kind2, x_N2, ()) h_7 fun (r5 : Int) (r6 : Int) h_8 =>
                        (bif r3 != r5 then
                          R false h_8
                        else
                          (bif r4 != r6 then
                            R false h_8
                          else
                            Nn r2 fun p =>
                            Ld .sl h_8 (p.add 9) fun (Flight : Sl) =>
                            C_lease_Field_Flight r1 h_8 fun (r7 : Int) h_9 =>
                            (Ld .sl h_9 (p.add 9) fun (Flight1 : Sl) => (.slice Flight1.a Flight1.n Flight1.c : Value) = .slice Flight.a Flight.n Flight.c) ∧
                            (bif r7 != (Flight.n : Int) then
                              R false h_9
                            else
                              Loop [.one (.int .i64)] (fun _ (x100 : Int) h_10 go1 =>
                                (bif decide (x100 < n) then
                                  C_lease_Field_Promised r1 x100 h_10 fun (r8 : Int) (r9 : Int) h_11 =>
                                  Nn r2 fun p1 =>
                                  Ld .sl h_11 (p1.add 2) fun (Clock : Sl) =>
                                  Ix Clock x100 1 fun e1 =>
                                  Ld (.int .i64) h_11 e1 fun (x : Int) =>
                                  C_lease_Field_Clock r1 x100 h_11 fun (r10 : Int) h_12 =>
                                  (Ld .sl h_12 (p1.add 2) fun (Clock1 : Sl) => (.slice Clock1.a Clock1.n Clock1.c : Value) = .slice Clock.a Clock.n Clock.c) ∧
                                  (Ld (.int .i64) h_12 e1 fun (x1 : Int) => (.int .i64 x1 : Value) = .int .i64 x) ∧
                                  (bif r10 != x then
                                    R false h_12
                                  else
                                    Nn r2 fun p2 =>
                                    Ld .sl h_12 (p2.add 5) fun (Till : Sl) =>
                                    Ix Till x100 1 fun e2 =>
                                    Ld (.int .i64) h_12 e2 fun (x2 : Int) =>
                                    C_lease_Field_Till r1 x100 h_12 fun (r11 : Int) h_13 =>
                                    (Ld .sl h_13 (p2.add 5) fun (Till1 : Sl) => (.slice Till1.a Till1.n Till1.c : Value) = .slice Till.a Till.n Till.c) ∧
                                    (Ld (.int .i64) h_13 e2 fun (x3 : Int) => (.int .i64 x3 : Value) = .int .i64 x2) ∧
                                    (bif r11 != x2 then
                                      R false h_13
                                    else
                                      Nn r2 fun p3 =>
                                      Ld .sl h_13 (p3.add 2) fun (Clock2 : Sl) =>
                                      Ix Clock2 x100 1 fun e3 =>
                                      Ld (.int .i64) h_13 e3 fun (x4 : Int) =>
                                      Nn r2 fun p4 =>
                                      Ld .sl h_13 (p4.add 5) fun (Till2 : Sl) =>
                                      Ix Till2 x100 1 fun e4 =>
                                      Ld (.int .i64) h_13 e4 fun (x5 : Int) =>
                                      C_lease_Field_Holds r1 x100 h_13 fun (r12 : Bool) h_14 =>
                                      (Ld .sl h_14 (p3.add 2) fun (Clock3 : Sl) => (.slice Clock3.a Clock3.n Clock3.c : Value) = .slice Clock2.a Clock2.n Clock2.c) ∧
                                      (Ld (.int .i64) h_14 e3 fun (x6 : Int) => (.int .i64 x6 : Value) = .int .i64 x4) ∧
                                      (Ld .sl h_14 (p4.add 5) fun (Till3 : Sl) => (.slice Till3.a Till3.n Till3.c : Value) = .slice Till2.a Till2.n Till2.c) ∧
                                      (Ld (.int .i64) h_14 e4 fun (x7 : Int) => (.int .i64 x7 : Value) = .int .i64 x5) ∧
                                      (bif !(r12 == (decide (x4 < x5))) then
                                        R false h_14
                                      else
                                        Nn r2 fun p5 =>
                                        Ld .sl h_14 (p5.add 6) fun (Whom : Sl) =>
                                        Ix Whom x100 1 fun e5 =>
                                        Ld (.int .i64) h_14 e5 fun (x8 : Int) =>
                                        (bif r8 != x8 then
                                          R false h_14
                                        else
                                          Nn r2 fun p6 =>
                                          Ld .sl h_14 (p6.add 7) fun (Promise : Sl) =>
                                          Ix Promise x100 1 fun e6 =>
                                          Ld (.int .i64) h_14 e6 fun (x9 : Int) =>
                                          (bif r9 != x9 then
                                            R false h_14
                                          else
                                            go1 (IntKind.i64.wrap (x100 + 1)) h_14
                                          )
                                        )
                                      )
                                    )
                                  )
                                else
                                  go (IntKind.i64.wrap (x65 + 1)) h_10
                                )
                                ) (0, ()) h_9
                            )
                          )
                        )
                      else
                        R true h_3
                      )
                      ) (0, ()) h_2
                  )
                )
              )
            )
          )
        )
      )
    )
  )
theorem E_law30_LeasePlays (n : Int) (length : Int) (skew : Int) (l : Sl) (h : Heap) (R : Bool → Heap → Prop) :
    VF Try.prog [(1018, [(65, .one (.int .i64))]), (2085694, [(100, .one (.int .i64))])] Try.f6 [.int .i64 n, .int .i64 length, .int .i64 skew, .slice l.a l.n l.c] h [.one .bool] R = S_law30_LeasePlays n length skew l h R := by kernel_rfl
theorem A_law30_LeasePlays {n : Int} {length : Int} {skew : Int} {l : Sl} {h : Heap} {R : Bool → Heap → Prop} (hs : S_law30_LeasePlays n length skew l h R) : C_law30_LeasePlays n length skew l h R :=
  use_ Try.func6 (by kernel_rfl) (E_law30_LeasePlays n length skew l h R) hs

/-- kissinggatelaw30.LeaseOne -/
def S_law30_LeaseOne (n : Int) (length : Int) (skew : Int) (l : Sl) (h : Heap) (R : Bool → Heap → Prop) : Prop :=
  C_law30_fixed  h fun (r : Bool) h_ =>
  (bif !r then
    R false h_
  else
    (bif decide ((l.n : Int) > 200) then
      R true h_
    else
      Nz 7 (
      Nz 10 (
      Let (IntKind.i64.wrap (1 + (IntKind.i64.wrap (divV .rem .u8 n 7))) : Int) fun k =>
      Let (IntKind.i64.wrap (1 + (IntKind.i64.wrap (divV .rem .u8 skew 10))) : Int) fun s =>
      Nz 20 (
      C_lease_New k (IntKind.i64.wrap ((IntKind.i64.wrap ((IntKind.i64.wrap (2 * s)) + 1)) + (IntKind.i64.wrap (divV .rem .u8 length 20)))) s h_ fun (r1 : Option Addr) h_1 =>
      Loop [.one (.int .i64)] (fun _ (x42 : Int) h_2 go =>
        (bif decide (x42 < (l.n : Int)) then
          Ix l x42 2 fun e =>
          Ld (.int .u8) h_2 e fun (x_Kind : Int) =>
          Ld (.int .i64) h_2 (e.add 1) fun (x_N : Int) =>
          Alloc h_2 (.cells #[.int .u8 0, .int .i64 0] 46) fun a h_3 =>
          St h_3 a (.int .u8 x_Kind) fun h_4 =>
          St h_4 (a.add 1) (.int .i64 x_N) fun h_5 =>
          Ld (.int .u8) h_5 a fun (x_Kind1 : Int) =>
          Ld (.int .i64) h_5 (a.add 1) fun (x_N1 : Int) =>
          C_law30_do r1 (x_Kind1, x_N1, ()) h_5 fun (r2 : Int) (r3 : Int) h_6 =>
          Loop [.one (.int .i64), .one (.int .i64)] (fun _ (holds : Int) (x50 : Int) h_7 go1 =>
            (bif decide (x50 < k) then
              C_lease_Field_Holds r1 x50 h_7 fun (r4 : Bool) h_8 =>
              Join [.one (.int .i64)] (fun _ (holds1 : Int) h_9 =>
                Loop [.one (.int .i64)] (fun _ (x59 : Int) h_10 go2 =>
                  (bif decide (x59 < k) then
                    C_lease_Field_Clock r1 x50 h_10 fun (r5 : Int) h_11 =>
                    C_lease_Field_Clock r1 x59 h_11 fun (r6 : Int) h_12 =>
                    (bif decide ((IntKind.i64.wrap (r5 - r6)) > s) then
                      R false h_12
                    else
                      go2 (IntKind.i64.wrap (x59 + 1)) h_12
                    )
                  else
                    go1 holds1 (IntKind.i64.wrap (x50 + 1)) h_10
                  )
                  ) (0, ()) h_9
                ) fun J =>
              (bif r4 then
                Let (IntKind.i64.wrap (holds + 1) : Int) fun holds2 =>
                J holds2 h_8
              else
                J holds h_8
              )
            else
              (bif decide (holds > 1) then
                R false h_7
              else
                go (IntKind.i64.wrap (x42 + 1)) h_7
              )
            )
            ) (0, 0, ()) h_6
        else
          C_lease_Field_Clock r1 0 h_2 fun (r7 : Int) h_13 =>
          R (decide (r7 ≥ 0)) h_13
        )
        ) (0, ()) h_1
      )
      )
      )
    )
  )
theorem E_law30_LeaseOne (n : Int) (length : Int) (skew : Int) (l : Sl) (h : Heap) (R : Bool → Heap → Prop) :
    VF Try.prog [(506, [(42, .one (.int .i64))]), (1037114, [(14, .one (.int .i64)), (50, .one (.int .i64))]), (265501285, [(14, .one (.int .i64))]), (531002574, [(59, .one (.int .i64))])] Try.f7 [.int .u8 n, .int .u8 length, .int .u8 skew, .slice l.a l.n l.c] h [.one .bool] R = S_law30_LeaseOne n length skew l h R := by kernel_rfl
theorem A_law30_LeaseOne {n : Int} {length : Int} {skew : Int} {l : Sl} {h : Heap} {R : Bool → Heap → Prop} (hs : S_law30_LeaseOne n length skew l h R) : C_law30_LeaseOne n length skew l h R :=
  use_ Try.func7 (by kernel_rfl) (E_law30_LeaseOne n length skew l h R) hs

/-- kissinggatelaw30.LeaseGoes -/
def S_law30_LeaseGoes (n : Int) (length : Int) (skew : Int) (l : Sl) (who : Int) (h : Heap) (R : Bool → Heap → Prop) : Prop :=
  C_law30_fixed  h fun (r : Bool) h_ =>
  (bif !r then
    R false h_
  else
    (bif decide ((l.n : Int) > 100) then
      R true h_
    else
      Nz 7 (
      Nz 5 (
      Let (IntKind.i64.wrap (1 + (IntKind.i64.wrap (divV .rem .u8 n 7))) : Int) fun k =>
      Let (IntKind.i64.wrap (1 + (IntKind.i64.wrap (divV .rem .u8 skew 5))) : Int) fun s =>
      Nz 10 (
      Let (IntKind.i64.wrap ((IntKind.i64.wrap ((IntKind.i64.wrap (2 * s)) + 1)) + (IntKind.i64.wrap (divV .rem .u8 length 10))) : Int) fun long =>
      C_lease_New k long s h_ fun (r1 : Option Addr) h_1 =>
      Loop [.one (.int .i64)] (fun _ (x48 : Int) h_2 go =>
        (bif decide (x48 < (l.n : Int)) then
          Ix l x48 2 fun e =>
          Ld (.int .u8) h_2 e fun (x_Kind : Int) =>
          Ld (.int .i64) h_2 (e.add 1) fun (x_N : Int) =>
          Alloc h_2 (.cells #[.int .u8 0, .int .i64 0] 46) fun a h_3 =>
          St h_3 a (.int .u8 x_Kind) fun h_4 =>
          St h_4 (a.add 1) (.int .i64 x_N) fun h_5 =>
          Ld (.int .u8) h_5 a fun (x_Kind1 : Int) =>
          Ld (.int .i64) h_5 (a.add 1) fun (x_N1 : Int) =>
          C_law30_do r1 (x_Kind1, x_N1, ()) h_5 fun (r2 : Int) (r3 : Int) h_6 =>
          go (IntKind.i64.wrap (x48 + 1)) h_6
        else
          Loop [] (fun _ h_7 go1 =>
            C_lease_Field_Flight r1 h_7 fun (r4 : Int) h_8 =>
            (bif decide (r4 > 0) then
              C_lease_Field_Drop r1 0 h_8 fun (r5 : Int) h_9 =>
              (bif r5 != 0 then
                R false h_9
              else
                go1  h_9
              )
            else
              Loop [.one (.int .i64)] (fun _ (x65 : Int) h_10 go2 =>
                (bif decide (x65 < (IntKind.i64.wrap (long + s))) then
                  Loop [.one (.int .i64)] (fun _ (x68 : Int) h_11 go3 =>
                    (bif decide (x68 < k) then
                      Loop [.one (.int .i64), .one (.int .i64)] (fun _ (slow : Int) (x71 : Int) h_12 go4 =>
                        (bif decide (x71 < k) then
                          C_lease_Field_Clock r1 x71 h_12 fun (r6 : Int) h_13 =>
                          C_lease_Field_Clock r1 slow h_13 fun (r7 : Int) h_14 =>
                          (bif decide (r6 < r7) then
                            go4 x71 (IntKind.i64.wrap (x71 + 1)) h_14
                          else
                            go4 slow (IntKind.i64.wrap (x71 + 1)) h_14
                          )
                        else
                          C_lease_Field_Tick r1 slow h_12 fun (r8 : Int) h_15 =>
                          (bif r8 != 0 then
                            R false h_15
                          else
                            go3 (IntKind.i64.wrap (x68 + 1)) h_15
                          )
                        )
                        ) (0, 0, ()) h_11
                    else
                      go2 (IntKind.i64.wrap (x65 + 1)) h_11
                    )
                    ) (0, ()) h_10
                else
                  Nz k (
                  Let (divV .rem .i64 (IntKind.i64.wrap who) k : Int) fun i =>
                  C_lease_Field_Ask r1 i h_10 fun (r9 : Int) (r10 : Int) h_16 =>
                  (bif r10 != 0 then
                    R false h_16
                  else
                    Loop [.one (.int .i64)] (fun _ (x103 : Int) h_17 go5 =>
                      (bif decide (x103 < (IntKind.i64.wrap (2 * k))) then
                        C_lease_Field_Deliver r1 0 h_17 fun (r11 : Int) h_18 =>
                        (bif r11 != 0 then
                          R false h_18
                        else
                          go5 (IntKind.i64.wrap (x103 + 1)) h_18
                        )
                      else
                        C_lease_Field_Holds r1 i h_17 fun (r12 : Bool) h_19 =>
                        (bif r12 then
                          C_lease_Field_Flight r1 h_19 fun (r13 : Int) h_20 =>
                          R (r13 == 0) h_20
                        else
                          R false h_19
                        )
                      )
                      ) (0, ()) h_16
                  )
                  )
                )
                ) (0, ()) h_8
            )
            ) (()) h_2
        )
        ) (0, ()) h_1
      )
      )
      )
    )
  )
theorem E_law30_LeaseGoes (n : Int) (length : Int) (skew : Int) (l : Sl) (who : Int) (h : Heap) (R : Bool → Heap → Prop) :
    VF Try.prog [(1018, [(48, .one (.int .i64))]), (1020, []), (4090, [(65, .one (.int .i64))]), (523570, [(68, .one (.int .i64))]), (268068042, [(17, .one (.int .i64)), (71, .one (.int .i64))]), (32762, [(103, .one (.int .i64))])] Try.f8 [.int .u8 n, .int .u8 length, .int .u8 skew, .slice l.a l.n l.c, .int .u8 who] h [.one .bool] R = S_law30_LeaseGoes n length skew l who h R := by kernel_rfl
theorem A_law30_LeaseGoes {n : Int} {length : Int} {skew : Int} {l : Sl} {who : Int} {h : Heap} {R : Bool → Heap → Prop} (hs : S_law30_LeaseGoes n length skew l who h R) : C_law30_LeaseGoes n length skew l who h R :=
  use_ Try.func8 (by kernel_rfl) (E_law30_LeaseGoes n length skew l who h R) hs

/-- kissinggatelaw30.fixed -/
def S_law30_fixed  (h : Heap) (R : Bool → Heap → Prop) : Prop :=
  C_lease_New 1 5 1 h fun (r : Option Addr) h_ =>
  C_lease_Field_Ask r 0 h_ fun (r1 : Int) (r2 : Int) h_1 =>
  C_lease_Field_Deliver r 0 h_1 fun (r3 : Int) h_2 =>
  C_lease_Field_Deliver r 0 h_2 fun (r4 : Int) h_3 =>
  C_lease_Field_Holds r 0 h_3 fun (r5 : Bool) h_4 =>
  Loop [.one (.int .i64)] (fun _ (x24 : Int) h_5 go =>
    (bif decide (x24 < 3) then
      C_lease_Field_Tick r 0 h_5 fun (r6 : Int) h_6 =>
      go (IntKind.i64.wrap (x24 + 1)) h_6
    else
      C_lease_Field_Promised r 0 h_5 fun (r7 : Int) (r8 : Int) h_7 =>
      C_lease_Field_Ask none 0 h_7 fun (r9 : Int) (r10 : Int) h_8 =>
      (bif r1 == 1 then
        (bif r2 == 0 then
          (bif r3 == 0 then
            (bif r4 == 0 then
              (bif r5 then
                C_lease_Field_Till r 0 h_8 fun (r11 : Int) h_9 =>
                (bif r11 == 3 then
                  C_lease_Field_Holds r 0 h_9 fun (r12 : Bool) h_10 =>
                  (bif !r12 then
                    (bif r7 == 0 then
                      (bif r8 == 5 then
                        C_lease_Field_Clock r 0 h_10 fun (r13 : Int) h_11 =>
                        (bif r13 == 3 then
                          C_lease_Field_Tick r 1 h_11 fun (r14 : Int) h_12 =>
                          (bif r14 == 6 then
                            C_lease_Field_Drop r 0 h_12 fun (r15 : Int) h_13 =>
                            (bif r15 == 6 then
                              C_lease_New 1 4 2 h_13 fun (r16 : Option Addr) h_14 =>
                              (bif r16.isNone then
                                (bif r10 == 1 then
                                  C_lease_Field_Flight none h_14 fun (r17 : Int) h_15 =>
                                  R (r17 == 0) h_15
                                else
                                  R false h_14
                                )
                              else
                                R false h_14
                              )
                            else
                              R false h_13
                            )
                          else
                            R false h_12
                          )
                        else
                          R false h_11
                        )
                      else
                        R false h_10
                      )
                    else
                      R false h_10
                    )
                  else
                    R false h_10
                  )
                else
                  R false h_9
                )
              else
                R false h_8
              )
            else
              R false h_8
            )
          else
            R false h_8
          )
        else
          R false h_8
        )
      else
        R false h_8
      )
    )
    ) (0, ()) h_4
theorem E_law30_fixed  (h : Heap) (R : Bool → Heap → Prop) :
    VF Try.prog [(506, [(24, .one (.int .i64))])] Try.f23 [] h [.one .bool] R = S_law30_fixed  h R := by kernel_rfl
theorem A_law30_fixed  {h : Heap} {R : Bool → Heap → Prop} (hs : S_law30_fixed  h R) : C_law30_fixed  h R :=
  use_ Try.func23 (by kernel_rfl) (E_law30_fixed  h R) hs

/-- kissinggatelaw30.do -/
def S_law30_do (f : Option Addr) (a : KL [.int .u8, .int .i64]) (h : Heap) (R : Int → Int → Heap → Prop) : Prop :=
  Alloc h (.cells #[.int .u8 a.1, .int .i64 a.2.1] 46) fun a1 h_ =>
  Ld (.int .u8) h_ a1 fun (Kind : Int) =>
  Nz 9 (
  Join [.one .bool] (fun _ (x9 : Bool) h_1 =>
    (bif x9 then
      Ld (.int .i64) h_1 (a1.add 1) fun (N : Int) =>
      C_lease_Field_Tick f N h_1 fun (r : Int) h_2 =>
      R 0 r h_2
    else
      (bif (divV .rem .u8 Kind 9) == 2 then
        Ld (.int .i64) h_1 (a1.add 1) fun (N1 : Int) =>
        C_lease_Field_Ask f N1 h_1 fun (r1 : Int) (r2 : Int) h_3 =>
        R r1 r2 h_3
      else
        (bif (divV .rem .u8 Kind 9) == 6 then
          Ld (.int .i64) h_1 (a1.add 1) fun (N2 : Int) =>
          C_lease_Field_Drop f N2 h_1 fun (r3 : Int) h_4 =>
          R 0 r3 h_4
        else
          (bif (divV .rem .u8 Kind 9) == 7 then
            Ld (.int .i64) h_1 (a1.add 1) fun (N3 : Int) =>
            C_lease_Field_Double f N3 h_1 fun (r4 : Int) h_5 =>
            R 0 r4 h_5
          else
            (bif (divV .rem .u8 Kind 9) == 8 then
              Ld (.int .i64) h_1 (a1.add 1) fun (N4 : Int) =>
              C_lease_Field_Fail f N4 h_1 fun (r5 : Int) h_6 =>
              R 0 r5 h_6
            else
              Ld (.int .i64) h_1 (a1.add 1) fun (N5 : Int) =>
              C_lease_Field_Deliver f N5 h_1 fun (r6 : Int) h_7 =>
              R 0 r6 h_7
            )
          )
        )
      )
    )
    ) fun J =>
  (bif (divV .rem .u8 Kind 9) == 0 then
    J ((divV .rem .u8 Kind 9) == 0) h_
  else
    J ((divV .rem .u8 Kind 9) == 1) h_
  )
  )
theorem E_law30_do (f : Option Addr) (a : KL [.int .u8, .int .i64]) (h : Heap) (R : Int → Int → Heap → Prop) :
    VF Try.prog [(105, [(9, .one .bool)])] Try.f26 [.pointer f, .agg ⟨KL.vals [.int .u8, .int .i64] a⟩] h [.one (.int .i64), .one (.int .i64)] R = S_law30_do f a h R := by kernel_rfl
theorem A_law30_do {f : Option Addr} {a : KL [.int .u8, .int .i64]} {h : Heap} {R : Int → Int → Heap → Prop} (hs : S_law30_do f a h R) : C_law30_do f a h R :=
  use_ Try.func26 (by kernel_rfl) (E_law30_do f a h R) hs

/-- kissinggatelaw30.want -/
def S_law30_want (f : Option Addr) (a : KL [.int .u8, .int .i64]) (h : Heap) (R : Int → Int → Heap → Prop) : Prop :=
  Alloc h (.cells #[.int .u8 a.1, .int .i64 a.2.1] 46) fun a1 h_ =>
  Ld (.int .u8) h_ a1 fun (Kind : Int) =>
  Nz 9 (
  Join [.one .bool] (fun _ (x9 : Bool) h_1 =>
    (bif x9 then
      Ld (.int .i64) h_1 (a1.add 1) fun (N : Int) =>
      C_ref30_Field_Tick f N h_1 fun (r : Int) h_2 =>
      R 0 r h_2
    else
      (bif (divV .rem .u8 Kind 9) == 2 then
        Ld (.int .i64) h_1 (a1.add 1) fun (N1 : Int) =>
        C_ref30_Field_Ask f N1 h_1 fun (r1 : Int) (r2 : Int) h_3 =>
        R r1 r2 h_3
      else
        (bif (divV .rem .u8 Kind 9) == 6 then
          Ld (.int .i64) h_1 (a1.add 1) fun (N2 : Int) =>
          C_ref30_Field_Drop f N2 h_1 fun (r3 : Int) h_4 =>
          R 0 r3 h_4
        else
          (bif (divV .rem .u8 Kind 9) == 7 then
            Ld (.int .i64) h_1 (a1.add 1) fun (N3 : Int) =>
            C_ref30_Field_Double f N3 h_1 fun (r4 : Int) h_5 =>
            R 0 r4 h_5
          else
            (bif (divV .rem .u8 Kind 9) == 8 then
              Ld (.int .i64) h_1 (a1.add 1) fun (N4 : Int) =>
              C_ref30_Field_Fail f N4 h_1 fun (r5 : Int) h_6 =>
              R 0 r5 h_6
            else
              Ld (.int .i64) h_1 (a1.add 1) fun (N5 : Int) =>
              C_ref30_Field_Deliver f N5 h_1 fun (r6 : Int) h_7 =>
              R 0 r6 h_7
            )
          )
        )
      )
    )
    ) fun J =>
  (bif (divV .rem .u8 Kind 9) == 0 then
    J ((divV .rem .u8 Kind 9) == 0) h_
  else
    J ((divV .rem .u8 Kind 9) == 1) h_
  )
  )
theorem E_law30_want (f : Option Addr) (a : KL [.int .u8, .int .i64]) (h : Heap) (R : Int → Int → Heap → Prop) :
    VF Try.prog [(105, [(9, .one .bool)])] Try.f27 [.pointer f, .agg ⟨KL.vals [.int .u8, .int .i64] a⟩] h [.one (.int .i64), .one (.int .i64)] R = S_law30_want f a h R := by kernel_rfl
theorem A_law30_want {f : Option Addr} {a : KL [.int .u8, .int .i64]} {h : Heap} {R : Int → Int → Heap → Prop} (hs : S_law30_want f a h R) : C_law30_want f a h R :=
  use_ Try.func27 (by kernel_rfl) (E_law30_want f a h R) hs

end Go.Proofs.Ytegbnmaglkpkjaa
