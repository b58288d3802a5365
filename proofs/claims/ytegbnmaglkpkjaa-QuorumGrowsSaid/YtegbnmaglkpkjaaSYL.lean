/- Printed by a program: what each function asks of the heap, that this is the reading of its code, and what follows for a call. -/
import Derived.Test.YtegbnmaglkpkjaaSC
import Derived.Test.YtegbnmaglkpkjaaProg
set_option maxRecDepth 1000000
namespace Go.Proofs.Ytegbnmaglkpkjaa
open Go

/-- kissinggatelaw36.QuorumTells -/
def S_law36_QuorumTells (weights : Sl) (n : Int) (k : Int) (set_ : Int) (h : Heap) (R : Bool → Heap → Prop) : Prop :=
  C_law36_fixed  h fun (r : Bool) h_ =>
  (bif !r then
    R false h_
  else
    (bif decide ((weights.n : Int) > 12) then
      R true h_
    else
      C_quorum_Weighted weights h_ fun (r1 : Option Addr) h_1 =>
      C_quorum_AtLeast n k h_1 fun (r2 : Option Addr) h_2 =>
      C_quorum_Most n h_2 fun (r3 : Option Addr) h_3 =>
      Join [.one .bool, .one (.int .i64)] (fun _ (right_ : Bool) (sum : Int) h_4 =>
        Loop [.one .bool, .one (.int .i64), .one (.int .i64)] (fun _ (right_1 : Bool) (sum1 : Int) (x38 : Int) h_5 go =>
          (bif decide (x38 < (weights.n : Int)) then
            Ix weights x38 1 fun e =>
            Ld (.int .i64) h_5 e fun (x : Int) =>
            Join [.one .bool] (fun _ (right_2 : Bool) h_6 =>
              (bif right_2 then
                Let (IntKind.i64.wrap (sum1 + x) : Int) fun sum2 =>
                go right_2 sum2 (IntKind.i64.wrap (x38 + 1)) h_6
              else
                go right_2 sum1 (IntKind.i64.wrap (x38 + 1)) h_6
              )
              ) fun J1 =>
            (bif right_1 then
              (bif decide (x ≥ 0) then
                Let (decide (x ≤ 64) : Bool) fun right_3 =>
                J1 right_3 h_5
              else
                J1 false h_5
              )
            else
              J1 false h_5
            )
          else
            Join [.one .bool] (fun _ (x60 : Bool) h_7 =>
              Join [] (fun _ h_8 =>
                Join [.one .bool] (fun _ (x76 : Bool) h_9 =>
                  (bif x76 then
                    Join [.one .bool] (fun _ (x8 : Bool) h_10 =>
                      R x8 h_10
                      ) fun J5 =>
                    (bif r2.isNone then
                      J5 r3.isNone h_9
                    else
                      J5 false h_9
                    )
                  else
                    Nz 2 (
                    C_law36_tells r3 (3, n, 0, IntKind.i64.wrap ((divV .quo .i64 n 2) + 1), ⟨none, 0, 0⟩, 0, 0, ()) set_ h_9 fun (r4 : Bool) h_11 =>
                    (bif !r4 then
                      R false h_11
                    else
                      (bif decide (k < 1) then
                        R r2.isNone h_11
                      else
                        (bif decide (k > n) then
                          R r2.isNone h_11
                        else
                          C_law36_tells r2 (3, n, 0, k, ⟨none, 0, 0⟩, 0, 0, ()) set_ h_11 fun (r5 : Bool) h_12 =>
                          R r5 h_12
                        )
                      )
                    )
                    )
                  )
                  ) fun J4 =>
                (bif decide (n < 1) then
                  J4 true h_8
                else
                  J4 (decide (n > 7)) h_8
                )
                ) fun J3 =>
              (bif x60 then
                C_law36_tells r1 (0, (weights.n : Int), 0, 0, weights, 0, 0, ()) set_ h_7 fun (r6 : Bool) h_13 =>
                (bif !r6 then
                  R false h_13
                else
                  J3  h_13
                )
              else
                (bif !r1.isNone then
                  R false h_7
                else
                  J3  h_7
                )
              )
              ) fun J2 =>
            (bif right_1 then
              J2 (decide (sum1 > 0)) h_5
            else
              J2 false h_5
            )
          )
          ) (right_, sum, 0, ()) h_4
        ) fun J =>
      (bif decide ((weights.n : Int) ≥ 1) then
        Let (decide ((weights.n : Int) ≤ 7) : Bool) fun right_4 =>
        J right_4 0 h_3
      else
        J false 0 h_3
      )
    )
  )
theorem E_law36_QuorumTells (weights : Sl) (n : Int) (k : Int) (set_ : Int) (h : Heap) (R : Bool → Heap → Prop) :
    VF Try.prog [(62, [(12, .one .bool), (13, .one (.int .i64))]), (506, [(12, .one .bool), (13, .one (.int .i64)), (38, .one (.int .i64))]), (64818, [(12, .one .bool)]), (508, [(60, .one .bool)]), (509, []), (1020, [(76, .one .bool)]), (4084, [(8, .one .bool)])] Try.f9 [.slice weights.a weights.n weights.c, .int .i64 n, .int .i64 k, .int .u64 set_] h [.one .bool] R = S_law36_QuorumTells weights n k set_ h R := by kernel_rfl
theorem A_law36_QuorumTells {weights : Sl} {n : Int} {k : Int} {set_ : Int} {h : Heap} {R : Bool → Heap → Prop} (hs : S_law36_QuorumTells weights n k set_ h R) : C_law36_QuorumTells weights n k set_ h R :=
  use_ Try.func9 (by kernel_rfl) (E_law36_QuorumTells weights n k set_ h R) hs

/-- kissinggatelaw36.QuorumJoint -/
def S_law36_QuorumJoint (n : Int) (a : Int) (b : Int) (rows : Int) (columns : Int) (set_ : Int) (h : Heap) (R : Bool → Heap → Prop) : Prop :=
  C_law36_fixed  h fun (r : Bool) h_ =>
  (bif !r then
    R false h_
  else
    C_quorum_Joint n a b h_ fun (r1 : Option Addr) h_1 =>
    C_quorum_Grid rows columns h_1 fun (r2 : Option Addr) h_2 =>
    Join [.one .bool] (fun _ (x41 : Bool) h_3 =>
      Join [] (fun _ h_4 =>
        (bif decide (rows < 1) then
          R r2.isNone h_4
        else
          (bif decide (rows > 7) then
            R r2.isNone h_4
          else
            (bif decide (columns < 1) then
              R r2.isNone h_4
            else
              (bif decide (columns > 7) then
                R r2.isNone h_4
              else
                (bif decide ((IntKind.i64.wrap (rows * columns)) > 7) then
                  R r2.isNone h_4
                else
                  C_law36_tells r2 (2, IntKind.i64.wrap (rows * columns), rows, 0, ⟨none, 0, 0⟩, 0, 0, ()) set_ h_4 fun (r3 : Bool) h_5 =>
                  R r3 h_5
                )
              )
            )
          )
        )
        ) fun J1 =>
      (bif x41 then
        (bif !r1.isNone then
          R false h_3
        else
          J1  h_3
        )
      else
        C_law36_tells r1 (1, n, 0, 0, ⟨none, 0, 0⟩, a, b, ()) set_ h_3 fun (r4 : Bool) h_6 =>
        (bif !r4 then
          R false h_6
        else
          J1  h_6
        )
      )
      ) fun J =>
    (bif decide (n < 1) then
      J true h_2
    else
      (bif decide (n > 7) then
        J true h_2
      else
        C_ref36_Size a n h_2 fun (r5 : Int) h_7 =>
        (bif r5 == 0 then
          J true h_7
        else
          C_ref36_Size b n h_7 fun (r6 : Int) h_8 =>
          J (r6 == 0) h_8
        )
      )
    )
  )
theorem E_law36_QuorumJoint (n : Int) (a : Int) (b : Int) (rows : Int) (columns : Int) (set_ : Int) (h : Heap) (R : Bool → Heap → Prop) :
    VF Try.prog [(60, [(41, .one .bool)]), (61, [])] Try.f10 [.int .i64 n, .int .u64 a, .int .u64 b, .int .i64 rows, .int .i64 columns, .int .u64 set_] h [.one .bool] R = S_law36_QuorumJoint n a b rows columns set_ h R := by kernel_rfl
theorem A_law36_QuorumJoint {n : Int} {a : Int} {b : Int} {rows : Int} {columns : Int} {set_ : Int} {h : Heap} {R : Bool → Heap → Prop} (hs : S_law36_QuorumJoint n a b rows columns set_ h R) : C_law36_QuorumJoint n a b rows columns set_ h R :=
  use_ Try.func10 (by kernel_rfl) (E_law36_QuorumJoint n a b rows columns set_ h R) hs

/-- kissinggatelaw36.QuorumMeets -/
def S_law36_QuorumMeets (weights : Sl) (a : Int) (b : Int) (n : Int) (k : Int) (m : Int) (rows : Int) (x : Int) (y : Int) (h : Heap) (R : Bool → Heap → Prop) : Prop :=
  C_law36_fixed  h fun (r : Bool) h_ =>
  (bif !r then
    R false h_
  else
    Join [.one .bool] (fun _ (x39 : Bool) h_1 =>
      (bif x39 then
        R true h_1
      else
        Loop [.one .sl, .one (.int .i64)] (fun _ (l : Sl) (x42 : Int) h_2 go =>
          (bif decide (x42 < (weights.n : Int)) then
            Ix weights x42 1 fun e =>
            Ld (.int .u8) h_2 e fun (x1 : Int) =>
            Nz 65 (
            Alloc h_2 (.cells #[.int .i64 (IntKind.i64.wrap (divV .rem .u8 x1 65))] 3) fun b1 h_3 =>
            App Try.prog 51 51 l ⟨some b1, 1, 1⟩ h_3 fun s h_4 =>
            go s (IntKind.i64.wrap (x42 + 1)) h_4
            )
          else
            Nz 7 (
            Let (IntKind.i64.wrap (1 + (IntKind.i64.wrap (divV .rem .u8 n 7))) : Int) fun c =>
            Nz 2 (
            Let (IntKind.i64.wrap (1 + (IntKind.i64.wrap (divV .rem .u8 rows 2))) : Int) fun r1 =>
            C_quorum_Weighted l h_2 fun (r2 : Option Addr) h_5 =>
            C_quorum_Joint c (IntKind.u64.wrap a) (IntKind.u64.wrap b) h_5 fun (r3 : Option Addr) h_6 =>
            Nz 3 (
            C_quorum_Grid r1 (IntKind.i64.wrap (1 + (divV .quo .i64 c 3))) h_6 fun (r4 : Option Addr) h_7 =>
            C_quorum_Most c h_7 fun (r5 : Option Addr) h_8 =>
            Alloc h_8 (.cells #[.pointer r2, .pointer r3, .pointer r4, .pointer r5] 64) fun b2 h_9 =>
            Loop [.one (.int .i64)] (fun _ (x79 : Int) h_10 go1 =>
              (bif decide (x79 < 4) then
                Ix ⟨some b2, 4, 4⟩ x79 1 fun e1 =>
                Ld .ptr h_10 e1 fun (x2 : Option Addr) =>
                (bif x2.isNone then
                  go1 (IntKind.i64.wrap (x79 + 1)) h_10
                else
                  C_quorum_System_Meets x2 x2 h_10 fun (r6 : Bool) h_11 =>
                  (bif !r6 then
                    R false h_11
                  else
                    C_quorum_System_Is x2 (IntKind.u64.wrap x) h_11 fun (r7 : Bool) h_12 =>
                    (bif r7 then
                      C_quorum_System_Is x2 (IntKind.u64.wrap y) h_12 fun (r8 : Bool) h_13 =>
                      (bif r8 then
                        (bif (bitV .and .u8 x y) == 0 then
                          R false h_13
                        else
                          go1 (IntKind.i64.wrap (x79 + 1)) h_13
                        )
                      else
                        go1 (IntKind.i64.wrap (x79 + 1)) h_13
                      )
                    else
                      go1 (IntKind.i64.wrap (x79 + 1)) h_12
                    )
                  )
                )
              else
                Nz c (
                Nz c (
                Let (IntKind.i64.wrap (1 + (divV .rem .i64 (IntKind.i64.wrap k) c)) : Int) fun i =>
                Let (IntKind.i64.wrap (1 + (divV .rem .i64 (IntKind.i64.wrap m) c)) : Int) fun j =>
                C_quorum_AtLeast c i h_10 fun (r9 : Option Addr) h_14 =>
                C_quorum_AtLeast c j h_14 fun (r10 : Option Addr) h_15 =>
                C_quorum_System_Meets r9 r10 h_15 fun (r11 : Bool) h_16 =>
                (bif !(r11 == (decide ((IntKind.i64.wrap (i + j)) > c))) then
                  R false h_16
                else
                  Ix ⟨some b2, 4, 4⟩ 1 1 fun e2 =>
                  Ld .ptr h_16 e2 fun (x3 : Option Addr) =>
                  (bif !x3.isNone then
                    C_quorum_Joint c (IntKind.u64.wrap a) (IntKind.u64.wrap a) h_16 fun (r12 : Option Addr) h_17 =>
                    C_quorum_System_Meets x3 r12 h_17 fun (r13 : Bool) h_18 =>
                    (bif r13 then
                      C_quorum_Joint c (IntKind.u64.wrap b) (IntKind.u64.wrap b) h_18 fun (r14 : Option Addr) h_19 =>
                      C_quorum_System_Meets x3 r14 h_19 fun (r15 : Bool) h_20 =>
                      R r15 h_20
                    else
                      R false h_18
                    )
                  else
                    R true h_16
                  )
                )
                )
                )
              )
              ) (0, ()) h_9
            )
            )
            )
          )
          ) (⟨none, 0, 0⟩, 0, ()) h_1
      )
      ) fun J =>
    (bif decide ((weights.n : Int) < 1) then
      J true h_
    else
      J (decide ((weights.n : Int) > 7)) h_
    )
  )
theorem E_law36_QuorumMeets (weights : Sl) (a : Int) (b : Int) (n : Int) (k : Int) (m : Int) (rows : Int) (x : Int) (y : Int) (h : Heap) (R : Bool → Heap → Prop) :
    VF Try.prog [(28, [(39, .one .bool)]), (250, [(19, .one .sl), (42, .one (.int .i64))]), (4090, [(79, .one (.int .i64))])] Try.f11 [.slice weights.a weights.n weights.c, .int .u8 a, .int .u8 b, .int .u8 n, .int .u8 k, .int .u8 m, .int .u8 rows, .int .u8 x, .int .u8 y] h [.one .bool] R = S_law36_QuorumMeets weights a b n k m rows x y h R := by kernel_rfl
theorem A_law36_QuorumMeets {weights : Sl} {a : Int} {b : Int} {n : Int} {k : Int} {m : Int} {rows : Int} {x : Int} {y : Int} {h : Heap} {R : Bool → Heap → Prop} (hs : S_law36_QuorumMeets weights a b n k m rows x y h R) : C_law36_QuorumMeets weights a b n k m rows x y h R :=
  use_ Try.func11 (by kernel_rfl) (E_law36_QuorumMeets weights a b n k m rows x y h R) hs

/-- kissinggatelaw36.QuorumGrows -/
def S_law36_QuorumGrows (weights : Sl) (a : Int) (b : Int) (n : Int) (rows : Int) (x : Int) (y : Int) (h : Heap) (R : Bool → Heap → Prop) : Prop :=
  C_law36_fixed  h fun (r : Bool) h_ =>
  (bif !r then
    R false h_
  else
    Join [.one .bool] (fun _ (x34 : Bool) h_1 =>
      (bif x34 then
        R true h_1
      else
        Loop [.one .sl, .one (.int .i64)] (fun _ (l : Sl) (x37 : Int) h_2 go =>
          (bif decide (x37 < (weights.n : Int)) then
            Ix weights x37 1 fun e =>
            Ld (.int .u8) h_2 e fun (x1 : Int) =>
            Nz 65 (
            Alloc h_2 (.cells #[.int .i64 (IntKind.i64.wrap (divV .rem .u8 x1 65))] 3) fun b1 h_3 =>
            App Try.prog 51 51 l ⟨some b1, 1, 1⟩ h_3 fun s h_4 =>
            go s (IntKind.i64.wrap (x37 + 1)) h_4
            )
          else
            Nz 7 (
            Let (IntKind.i64.wrap (1 + (IntKind.i64.wrap (divV .rem .u8 n 7))) : Int) fun c =>
            Nz 2 (
            Nz 3 (
            Nz c (
            C_quorum_Weighted l h_2 fun (r1 : Option Addr) h_5 =>
            C_quorum_Joint c (IntKind.u64.wrap a) (IntKind.u64.wrap b) h_5 fun (r2 : Option Addr) h_6 =>
            C_quorum_Grid (IntKind.i64.wrap (1 + (IntKind.i64.wrap (divV .rem .u8 rows 2)))) (IntKind.i64.wrap (1 + (divV .quo .i64 c 3))) h_6 fun (r3 : Option Addr) h_7 =>
            C_quorum_AtLeast c (IntKind.i64.wrap (1 + (divV .rem .i64 (IntKind.i64.wrap a) c))) h_7 fun (r4 : Option Addr) h_8 =>
            Alloc h_8 (.cells #[.pointer r1, .pointer r2, .pointer r3, .pointer r4] 64) fun b2 h_9 =>
            Loop [.one (.int .i64)] (fun _ (x77 : Int) h_10 go1 =>
              (bif decide (x77 < 4) then
                Ix ⟨some b2, 4, 4⟩ x77 1 fun e1 =>
                Ld .ptr h_10 e1 fun (x2 : Option Addr) =>
                (bif x2.isNone then
                  go1 (IntKind.i64.wrap (x77 + 1)) h_10
                else
                  C_quorum_System_Nodes x2 h_10 fun (r5 : Int) h_11 =>
                  Nneg (IntKind.u64.wrap r5) (
                  Let (IntKind.u64.wrap ((shiftV .shl .u64 1 (IntKind.u64.wrap r5)) - 1) : Int) fun all =>
                  Join [.one .bool] (fun _ (x119 : Bool) h_12 =>
                    (bif x119 then
                      R false h_12
                    else
                      C_quorum_System_Least x2 h_12 fun (r6 : Sl) h_13 =>
                      Loop [.one .bool, .one (.int .i64)] (fun _ (in_ : Bool) (x123 : Int) h_14 go2 =>
                        (bif decide (x123 < (r6.n : Int)) then
                          Ix r6 x123 1 fun e2 =>
                          Ld (.int .u64) h_14 e2 fun (x3 : Int) =>
                          (bif in_ then
                            go2 true (IntKind.i64.wrap (x123 + 1)) h_14
                          else
                            Let ((bitV .and .u64 x3 x) == x3 : Bool) fun in_1 =>
                            go2 in_1 (IntKind.i64.wrap (x123 + 1)) h_14
                          )
                        else
                          C_quorum_System_Is x2 x h_14 fun (r7 : Bool) h_15 =>
                          (bif !(in_ == r7) then
                            R false h_15
                          else
                            go1 (IntKind.i64.wrap (x77 + 1)) h_15
                          )
                        )
                        ) (false, 0, ()) h_13
                    )
                    ) fun J1 =>
                  C_quorum_System_Is x2 x h_11 fun (r8 : Bool) h_16 =>
                  (bif r8 then
                    C_quorum_System_Is x2 (bitV .or .u64 x y) h_16 fun (r9 : Bool) h_17 =>
                    (bif !r9 then
                      J1 true h_17
                    else
                      C_quorum_System_Is x2 x h_17 fun (r10 : Bool) h_18 =>
                      C_quorum_System_Is x2 (bitV .and .u64 x all) h_18 fun (r11 : Bool) h_19 =>
                      (bif !(r10 == r11) then
                        J1 true h_19
                      else
                        C_quorum_System_Is x2 all h_19 fun (r12 : Bool) h_20 =>
                        (bif !r12 then
                          J1 true h_20
                        else
                          C_quorum_System_Is x2 0 h_20 fun (r13 : Bool) h_21 =>
                          J1 r13 h_21
                        )
                      )
                    )
                  else
                    C_quorum_System_Is x2 x h_16 fun (r14 : Bool) h_22 =>
                    C_quorum_System_Is x2 (bitV .and .u64 x all) h_22 fun (r15 : Bool) h_23 =>
                    (bif !(r14 == r15) then
                      J1 true h_23
                    else
                      C_quorum_System_Is x2 all h_23 fun (r16 : Bool) h_24 =>
                      (bif !r16 then
                        J1 true h_24
                      else
                        C_quorum_System_Is x2 0 h_24 fun (r17 : Bool) h_25 =>
                        J1 r17 h_25
                      )
                    )
                  )
                  )
                )
              else
                R true h_10
              )
              ) (0, ()) h_9
            )
            )
            )
            )
          )
          ) (⟨none, 0, 0⟩, 0, ()) h_1
      )
      ) fun J =>
    (bif decide ((weights.n : Int) < 1) then
      J true h_
    else
      J (decide ((weights.n : Int) > 7)) h_
    )
  )
theorem E_law36_QuorumGrows (weights : Sl) (a : Int) (b : Int) (n : Int) (rows : Int) (x : Int) (y : Int) (h : Heap) (R : Bool → Heap → Prop) :
    VF Try.prog [(28, [(34, .one .bool)]), (250, [(15, .one .sl), (37, .one (.int .i64))]), (1018, [(77, .one (.int .i64))]), (1042844, [(119, .one .bool)]), (8342778, [(22, .one .bool), (123, .one (.int .i64))])] Try.f12 [.slice weights.a weights.n weights.c, .int .u8 a, .int .u8 b, .int .u8 n, .int .u8 rows, .int .u64 x, .int .u64 y] h [.one .bool] R = S_law36_QuorumGrows weights a b n rows x y h R := by kernel_rfl
theorem A_law36_QuorumGrows {weights : Sl} {a : Int} {b : Int} {n : Int} {rows : Int} {x : Int} {y : Int} {h : Heap} {R : Bool → Heap → Prop} (hs : S_law36_QuorumGrows weights a b n rows x y h R) : C_law36_QuorumGrows weights a b n rows x y h R :=
  use_ Try.func12 (by kernel_rfl) (E_law36_QuorumGrows weights a b n rows x y h R) hs

/-- kissinggatelaw36.fixed -/
def S_law36_fixed  (h : Heap) (R : Bool → Heap → Prop) : Prop :=
  C_quorum_Most 5 h fun (r : Option Addr) h_ =>
  C_quorum_System_Least r h_ fun (r1 : Sl) h_1 =>
  C_quorum_Grid 2 2 h_1 fun (r2 : Option Addr) h_2 =>
  Alloc h_2 (.cells #[.int .i64 3, .int .i64 1, .int .i64 1] 3) fun b h_3 =>
  C_quorum_Weighted ⟨some b, 3, 3⟩ h_3 fun (r3 : Option Addr) h_4 =>
  (bif (r1.n : Int) == 10 then
    Ix r1 0 1 fun e =>
    Ld (.int .u64) h_4 e fun (x : Int) =>
    (bif x == 7 then
      C_quorum_System_Tolerates r h_4 fun (r4 : Int) h_5 =>
      (bif r4 == 2 then
        C_quorum_System_Is r 7 h_5 fun (r5 : Bool) h_6 =>
        (bif r5 then
          C_quorum_System_Is r 3 h_6 fun (r6 : Bool) h_7 =>
          (bif !r6 then
            C_quorum_System_Meets r r h_7 fun (r7 : Bool) h_8 =>
            (bif r7 then
              C_quorum_System_Is r2 7 h_8 fun (r8 : Bool) h_9 =>
              (bif r8 then
                C_quorum_System_Is r2 3 h_9 fun (r9 : Bool) h_10 =>
                (bif !r9 then
                  C_quorum_System_Nodes r2 h_10 fun (r10 : Int) h_11 =>
                  (bif r10 == 4 then
                    C_quorum_System_Is r3 1 h_11 fun (r11 : Bool) h_12 =>
                    (bif r11 then
                      C_quorum_System_Is r3 6 h_12 fun (r12 : Bool) h_13 =>
                      (bif !r12 then
                        C_quorum_System_Tolerates r3 h_13 fun (r13 : Int) h_14 =>
                        (bif r13 == 0 then
                          C_quorum_Joint 3 8 1 h_14 fun (r14 : Option Addr) h_15 =>
                          (bif r14.isNone then
                            C_quorum_AtLeast 3 4 h_15 fun (r15 : Option Addr) h_16 =>
                            (bif r15.isNone then
                              C_quorum_Grid 3 3 h_16 fun (r16 : Option Addr) h_17 =>
                              (bif r16.isNone then
                                Alloc h_17 (.cells #[.int .i64 0] 3) fun b1 h_18 =>
                                C_quorum_Weighted ⟨some b1, 1, 1⟩ h_18 fun (r17 : Option Addr) h_19 =>
                                (bif r17.isNone then
                                  C_quorum_System_Is none 1 h_19 fun (r18 : Bool) h_20 =>
                                  (bif !r18 then
                                    C_quorum_System_Tolerates none h_20 fun (r19 : Int) h_21 =>
                                    (bif r19 == 0 then
                                      C_quorum_AtLeast 3 1 h_21 fun (r20 : Option Addr) h_22 =>
                                      C_quorum_System_Tolerates r20 h_22 fun (r21 : Int) h_23 =>
                                      R (r21 == 2) h_23
                                    else
                                      R false h_21
                                    )
                                  else
                                    R false h_20
                                  )
                                else
                                  R false h_19
                                )
                              else
                                R false h_17
                              )
                            else
                              R false h_16
                            )
                          else
                            R false h_15
                          )
                        else
                          R false h_14
                        )
                      else
                        R false h_13
                      )
                    else
                      R false h_12
                    )
                  else
                    R false h_11
                  )
                else
                  R false h_10
                )
              else
                R false h_9
              )
            else
              R false h_8
            )
          else
            R false h_7
          )
        else
          R false h_6
        )
      else
        R false h_5
      )
    else
      R false h_4
    )
  else
    R false h_4
  )
theorem E_law36_fixed  (h : Heap) (R : Bool → Heap → Prop) :
    VF Try.prog [] Try.f37 [] h [.one .bool] R = S_law36_fixed  h R := by kernel_rfl
theorem A_law36_fixed  {h : Heap} {R : Bool → Heap → Prop} (hs : S_law36_fixed  h R) : C_law36_fixed  h R :=
  use_ Try.func37 (by kernel_rfl) (E_law36_fixed  h R) hs

/-- kissinggatelaw36.tells -/
def S_law36_tells (s : Option Addr) (k : KL [.int .i64, .int .i64, .int .i64, .int .i64, .sl, .int .u64, .int .u64]) (set_ : Int) (h : Heap) (R : Bool → Heap → Prop) : Prop :=
  Alloc h (.cells #[.int .i64 k.1, .int .i64 k.2.1, .int .i64 k.2.2.1, .int .i64 k.2.2.2.1, .slice k.2.2.2.2.1.a k.2.2.2.2.1.n k.2.2.2.2.1.c, .int .u64 k.2.2.2.2.2.1, .int .u64 k.2.2.2.2.2.2.1] 70) fun k1 h_ =>
  Join [.one .bool] (fun _ (x36 : Bool) h_1 =>
    (bif x36 then
      R false h_1
    else
      Ld (.int .i64) h_1 (k1.add 1) fun (N : Int) =>
      Nneg (IntKind.u64.wrap N) (
      Let (IntKind.u64.wrap ((shiftV .shl .u64 1 (IntKind.u64.wrap N)) - 1) : Int) fun all =>
      Ld (.int .i64) h_1 (k1.add 1) fun (N1 : Int) =>
      Loop [.one (.int .i64), .one (.int .u64)] (fun _ (least : Int) (x : Int) h_2 go =>
        (bif decide (x ≤ all) then
          Ld (.int .i64) h_2 k1 fun (x_Kind : Int) =>
          Ld (.int .i64) h_2 (k1.add 1) fun (x_N : Int) =>
          Ld (.int .i64) h_2 (k1.add 2) fun (x_Rows : Int) =>
          Ld (.int .i64) h_2 (k1.add 3) fun (x_K : Int) =>
          Ld .sl h_2 (k1.add 4) fun (x_Weights : Sl) =>
          Ld (.int .u64) h_2 (k1.add 5) fun (x_A : Int) =>
          Ld (.int .u64) h_2 (k1.add 6) fun (x_B : Int) =>
          C_quorum_System_Survives s x h_2 fun (r : Bool) h_3 =>
          (Ld (.int .i64) h_3 k1 fun (x_Kind1 : Int) => Ld (.int .i64) h_3 (k1.add 1) fun (x_N1 : Int) => Ld (.int .i64) h_3 (k1.add 2) fun (x_Rows1 : Int) => Ld (.int .i64) h_3 (k1.add 3) fun (x_K1 : Int) => Ld .sl h_3 (k1.add 4) fun (x_Weights1 : Sl) => Ld (.int .u64) h_3 (k1.add 5) fun (x_A1 : Int) => Ld (.int .u64) h_3 (k1.add 6) fun (x_B1 : Int) => (.agg #[.int .i64 x_Kind1, .int .i64 x_N1, .int .i64 x_Rows1, .int .i64 x_K1, .slice x_Weights1.a x_Weights1.n x_Weights1.c, .int .u64 x_A1, .int .u64 x_B1] : Value) = .agg #[.int .i64 x_Kind, .int .i64 x_N, .int .i64 x_Rows, .int .i64 x_K, .slice x_Weights.a x_Weights.n x_Weights.c, .int .u64 x_A, .int .u64 x_B]) ∧
          C_ref36_Kind_Is (x_Kind, x_N, x_Rows, x_K, x_Weights, x_A, x_B, ()) (IntKind.u64.wrap (all - x)) h_3 fun (r1 : Bool) h_4 =>
          (bif !(r == r1) then
            R false h_4
          else
            Ld (.int .i64) h_4 (k1.add 1) fun (N2 : Int) =>
            C_ref36_Size x N2 h_4 fun (r2 : Int) h_5 =>
            Ld (.int .i64) h_5 k1 fun (x_Kind2 : Int) =>
            Ld (.int .i64) h_5 (k1.add 1) fun (x_N2 : Int) =>
            Ld (.int .i64) h_5 (k1.add 2) fun (x_Rows2 : Int) =>
            Ld (.int .i64) h_5 (k1.add 3) fun (x_K2 : Int) =>
            Ld .sl h_5 (k1.add 4) fun (x_Weights2 : Sl) =>
            Ld (.int .u64) h_5 (k1.add 5) fun (x_A2 : Int) =>
            Ld (.int .u64) h_5 (k1.add 6) fun (x_B2 : Int) =>
            C_ref36_Kind_Is (x_Kind2, x_N2, x_Rows2, x_K2, x_Weights2, x_A2, x_B2, ()) (IntKind.u64.wrap (all - x)) h_5 fun (r3 : Bool) h_6 =>
            (bif !r3 then
              (bif decide (r2 < least) then
                Let (IntKind.u64.wrap (x + 1) : Int) fun x1 =>
                go r2 x1 h_6
              else
                Let (IntKind.u64.wrap (x + 1) : Int) fun x2 =>
                go least x2 h_6
              )
            else
              Let (IntKind.u64.wrap (x + 1) : Int) fun x3 =>
              go least x3 h_6
            )
          )
        else
          C_quorum_System_Tolerates s h_2 fun (r4 : Int) h_7 =>
          R (r4 == (IntKind.i64.wrap (least - 1))) h_7
        )
        ) (N1, 0, ()) h_1
      )
    )
    ) fun J =>
  (bif s.isNone then
    J true h_
  else
    Ld (.int .i64) h_ (k1.add 1) fun (N3 : Int) =>
    C_quorum_System_Nodes s h_ fun (r5 : Int) h_8 =>
    (Ld (.int .i64) h_8 (k1.add 1) fun (N4 : Int) => (.int .i64 N4 : Value) = .int .i64 N3) ∧
    (bif r5 != N3 then
      J true h_8
    else
      Ld (.int .i64) h_8 k1 fun (x_Kind3 : Int) =>
      Ld (.int .i64) h_8 (k1.add 1) fun (x_N3 : Int) =>
      Ld (.int .i64) h_8 (k1.add 2) fun (x_Rows3 : Int) =>
      Ld (.int .i64) h_8 (k1.add 3) fun (x_K3 : Int) =>
      Ld .sl h_8 (k1.add 4) fun (x_Weights3 : Sl) =>
      Ld (.int .u64) h_8 (k1.add 5) fun (x_A3 : Int) =>
      Ld (.int .u64) h_8 (k1.add 6) fun (x_B3 : Int) =>
      C_quorum_System_Is s set_ h_8 fun (r6 : Bool) h_9 =>
      (Ld (.int .i64) h_9 k1 fun (x_Kind4 : Int) => Ld (.int .i64) h_9 (k1.add 1) fun (x_N4 : Int) => Ld (.int .i64) h_9 (k1.add 2) fun (x_Rows4 : Int) => Ld (.int .i64) h_9 (k1.add 3) fun (x_K4 : Int) => Ld .sl h_9 (k1.add 4) fun (x_Weights4 : Sl) => Ld (.int .u64) h_9 (k1.add 5) fun (x_A4 : Int) => Ld (.int .u64) h_9 (k1.add 6) fun (x_B4 : Int) => (.agg #[.int .i64 x_Kind4, .int .i64 x_N4, .int .i64 x_Rows4, .int .i64 x_K4, .slice x_Weights4.a x_Weights4.n x_Weights4.c, .int .u64 x_A4, .int .u64 x_B4] : Value) = .agg #[.int .i64 x_Kind3, .int .i64 x_N3, .int .i64 x_Rows3, .int .i64 x_K3, .slice x_Weights3.a x_Weights3.n x_Weights3.c, .int .u64 x_A3, .int .u64 x_B3]) ∧
      C_ref36_Kind_Is (x_Kind3, x_N3, x_Rows3, x_K3, x_Weights3, x_A3, x_B3, ()) set_ h_9 fun (r7 : Bool) h_10 =>
      (bif !(r6 == r7) then
        J true h_10
      else
        Ld (.int .i64) h_10 k1 fun (x_Kind5 : Int) =>
        Ld (.int .i64) h_10 (k1.add 1) fun (x_N5 : Int) =>
        Ld (.int .i64) h_10 (k1.add 2) fun (x_Rows5 : Int) =>
        Ld (.int .i64) h_10 (k1.add 3) fun (x_K5 : Int) =>
        Ld .sl h_10 (k1.add 4) fun (x_Weights5 : Sl) =>
        Ld (.int .u64) h_10 (k1.add 5) fun (x_A5 : Int) =>
        Ld (.int .u64) h_10 (k1.add 6) fun (x_B5 : Int) =>
        C_quorum_System_Least s h_10 fun (r8 : Sl) h_11 =>
        (Ld (.int .i64) h_11 k1 fun (x_Kind6 : Int) => Ld (.int .i64) h_11 (k1.add 1) fun (x_N6 : Int) => Ld (.int .i64) h_11 (k1.add 2) fun (x_Rows6 : Int) => Ld (.int .i64) h_11 (k1.add 3) fun (x_K6 : Int) => Ld .sl h_11 (k1.add 4) fun (x_Weights6 : Sl) => Ld (.int .u64) h_11 (k1.add 5) fun (x_A6 : Int) => Ld (.int .u64) h_11 (k1.add 6) fun (x_B6 : Int) => (.agg #[.int .i64 x_Kind6, .int .i64 x_N6, .int .i64 x_Rows6, .int .i64 x_K6, .slice x_Weights6.a x_Weights6.n x_Weights6.c, .int .u64 x_A6, .int .u64 x_B6] : Value) = .agg #[.int .i64 x_Kind5, .int .i64 x_N5, .int .i64 x_Rows5, .int .i64 x_K5, .slice x_Weights5.a x_Weights5.n x_Weights5.c, .int .u64 x_A5, .int .u64 x_B5]) ∧
        C_ref36_Kind_Least (x_Kind5, x_N5, x_Rows5, x_K5, x_Weights5, x_A5, x_B5, ()) h_11 fun (r9 : Sl) h_12 =>
        C_law36_same r8 r9 h_12 fun (r10 : Bool) h_13 =>
        J (!r10) h_13
      )
    )
  )
theorem E_law36_tells (s : Option Addr) (k : KL [.int .i64, .int .i64, .int .i64, .int .i64, .sl, .int .u64, .int .u64]) (set_ : Int) (h : Heap) (R : Bool → Heap → Prop) :
    VF Try.prog [(12, [(36, .one .bool)]), (250, [(8, .one (.int .i64)), (9, .one (.int .u64))])] Try.f41 [.pointer s, .agg ⟨KL.vals [.int .i64, .int .i64, .int .i64, .int .i64, .sl, .int .u64, .int .u64] k⟩, .int .u64 set_] h [.one .bool] R = S_law36_tells s k set_ h R := by kernel_rfl
theorem A_law36_tells {s : Option Addr} {k : KL [.int .i64, .int .i64, .int .i64, .int .i64, .sl, .int .u64, .int .u64]} {set_ : Int} {h : Heap} {R : Bool → Heap → Prop} (hs : S_law36_tells s k set_ h R) : C_law36_tells s k set_ h R :=
  use_ Try.func41 (by kernel_rfl) (E_law36_tells s k set_ h R) hs

/-- kissinggatelaw36.same -/
def S_law36_same (a : Sl) (b : Sl) (h : Heap) (R : Bool → Heap → Prop) : Prop :=
  (bif (a.n : Int) != (b.n : Int) then
    R false h
  else
    Loop [.one (.int .i64)] (fun _ (x13 : Int) h_ go =>
      (bif decide (x13 < (a.n : Int)) then
        Ix a x13 1 fun e =>
        Ld (.int .u64) h_ e fun (x : Int) =>
        Ix b x13 1 fun e1 =>
        Ld (.int .u64) h_ e1 fun (x1 : Int) =>
        (bif x != x1 then
          R false h_
        else
          go (IntKind.i64.wrap (x13 + 1)) h_
        )
      else
        R true h_
      )
      ) (0, ()) h
  )
theorem E_law36_same (a : Sl) (b : Sl) (h : Heap) (R : Bool → Heap → Prop) :
    VF Try.prog [(58, [(13, .one (.int .i64))])] Try.f73 [.slice a.a a.n a.c, .slice b.a b.n b.c] h [.one .bool] R = S_law36_same a b h R := by kernel_rfl
theorem A_law36_same {a : Sl} {b : Sl} {h : Heap} {R : Bool → Heap → Prop} (hs : S_law36_same a b h R) : C_law36_same a b h R :=
  use_ Try.func73 (by kernel_rfl) (E_law36_same a b h R) hs

end Go.Proofs.Ytegbnmaglkpkjaa
