/- Printed by a program: what each function asks of the heap, that this is the reading of its code, and what follows for a call. -/
import Derived.Test.YtegbnmaglkpkjaaSC
import Derived.Test.YtegbnmaglkpkjaaProg
set_option maxRecDepth 1000000
namespace Go.Proofs.Ytegbnmaglkpkjaa
open Go

/-- kissinggateref36.Size -/
def S_ref36_Size (set_ : Int) (n : Int) (h : Heap) (R : Int → Heap → Prop) : Prop :=
  Loop [.one (.int .i64), .one (.int .i64)] (fun _ (out : Int) (i : Int) h_ go =>
    (bif decide (i < n) then
      C_ref36_In set_ i h_ fun (r : Bool) h_1 =>
      (bif r then
        Let (IntKind.i64.wrap (out + 1) : Int) fun out1 =>
        Let (IntKind.i64.wrap (i + 1) : Int) fun i1 =>
        go out1 i1 h_1
      else
        Let (IntKind.i64.wrap (i + 1) : Int) fun i2 =>
        go out i2 h_1
      )
    else
      R out h_
    )
    ) (0, 0, ()) h
theorem E_ref36_Size (set_ : Int) (n : Int) (h : Heap) (R : Int → Heap → Prop) :
    VF Try.prog [(58, [(5, .one (.int .i64)), (6, .one (.int .i64))])] Try.f44 [.int .u64 set_, .int .i64 n] h [.one (.int .i64)] R = S_ref36_Size set_ n h R := by kernel_rfl
theorem A_ref36_Size {set_ : Int} {n : Int} {h : Heap} {R : Int → Heap → Prop} (hs : S_ref36_Size set_ n h R) : C_ref36_Size set_ n h R :=
  use_ Try.func44 (by kernel_rfl) (E_ref36_Size set_ n h R) hs

/-- (kissinggateref36.Kind).Is -/
def S_ref36_Kind_Is (k : KL [.int .i64, .int .i64, .int .i64, .int .i64, .sl, .int .u64, .int .u64]) (set_ : Int) (h : Heap) (R : Bool → Heap → Prop) : Prop :=
  Alloc h (.cells #[.int .i64 k.1, .int .i64 k.2.1, .int .i64 k.2.2.1, .int .i64 k.2.2.2.1, .slice k.2.2.2.2.1.a k.2.2.2.2.1.n k.2.2.2.2.1.c, .int .u64 k.2.2.2.2.2.1, .int .u64 k.2.2.2.2.2.2.1] 70) fun k1 h_ =>
  Ld (.int .i64) h_ k1 fun (Kind : Int) =>
  (bif Kind == 0 then
    Ld .sl h_ (k1.add 4) fun (Weights : Sl) =>
    Loop [.one (.int .i64), .one (.int .i64), .one (.int .i64)] (fun _ (sum : Int) (all : Int) (x20 : Int) h_1 go =>
      (bif decide (x20 < (Weights.n : Int)) then
        Ix Weights x20 1 fun e =>
        Ld (.int .i64) h_1 e fun (x : Int) =>
        Let (IntKind.i64.wrap (all + x) : Int) fun all1 =>
        C_ref36_In set_ x20 h_1 fun (r : Bool) h_2 =>
        (bif r then
          Let (IntKind.i64.wrap (sum + x) : Int) fun sum1 =>
          go sum1 all1 (IntKind.i64.wrap (x20 + 1)) h_2
        else
          go sum all1 (IntKind.i64.wrap (x20 + 1)) h_2
        )
      else
        R (decide (sum > (IntKind.i64.wrap (all - sum)))) h_1
      )
      ) (0, 0, 0, ()) h_
  else
    Ld (.int .i64) h_ k1 fun (Kind1 : Int) =>
    (bif Kind1 == 1 then
      Join [.one .bool] (fun _ (x4 : Bool) h_3 =>
        R x4 h_3
        ) fun J =>
      Ld (.int .u64) h_ (k1.add 5) fun (A : Int) =>
      Ld (.int .i64) h_ (k1.add 1) fun (N : Int) =>
      Ld (.int .u64) h_ (k1.add 5) fun (A1 : Int) =>
      Ld (.int .i64) h_ (k1.add 1) fun (N1 : Int) =>
      Ld (.int .u64) h_ (k1.add 5) fun (A2 : Int) =>
      Ld (.int .i64) h_ (k1.add 1) fun (N2 : Int) =>
      C_ref36_Size (bitV .and .u64 set_ A) N h_ fun (r1 : Int) h_4 =>
      (Ld (.int .u64) h_4 (k1.add 5) fun (A3 : Int) => (.int .u64 A3 : Value) = .int .u64 A1) ∧
      (Ld (.int .i64) h_4 (k1.add 1) fun (N3 : Int) => (.int .i64 N3 : Value) = .int .i64 N1) ∧
      (Ld (.int .u64) h_4 (k1.add 5) fun (A4 : Int) => (.int .u64 A4 : Value) = .int .u64 A2) ∧
      (Ld (.int .i64) h_4 (k1.add 1) fun (N4 : Int) => (.int .i64 N4 : Value) = .int .i64 N2) ∧
      C_ref36_Size A1 N1 h_4 fun (r2 : Int) h_5 =>
      (Ld (.int .u64) h_5 (k1.add 5) fun (A5 : Int) => (.int .u64 A5 : Value) = .int .u64 A2) ∧
      (Ld (.int .i64) h_5 (k1.add 1) fun (N5 : Int) => (.int .i64 N5 : Value) = .int .i64 N2) ∧
      C_ref36_Size (bitV .and .u64 set_ A2) N2 h_5 fun (r3 : Int) h_6 =>
      (bif decide (r1 > (IntKind.i64.wrap (r2 - r3))) then
        Ld (.int .u64) h_6 (k1.add 6) fun (B : Int) =>
        Ld (.int .i64) h_6 (k1.add 1) fun (N6 : Int) =>
        Ld (.int .u64) h_6 (k1.add 6) fun (B1 : Int) =>
        Ld (.int .i64) h_6 (k1.add 1) fun (N7 : Int) =>
        Ld (.int .u64) h_6 (k1.add 6) fun (B2 : Int) =>
        Ld (.int .i64) h_6 (k1.add 1) fun (N8 : Int) =>
        C_ref36_Size (bitV .and .u64 set_ B) N6 h_6 fun (r4 : Int) h_7 =>
        (Ld (.int .u64) h_7 (k1.add 6) fun (B3 : Int) => (.int .u64 B3 : Value) = .int .u64 B1) ∧
        (Ld (.int .i64) h_7 (k1.add 1) fun (N9 : Int) => (.int .i64 N9 : Value) = .int .i64 N7) ∧
        (Ld (.int .u64) h_7 (k1.add 6) fun (B4 : Int) => (.int .u64 B4 : Value) = .int .u64 B2) ∧
        (Ld (.int .i64) h_7 (k1.add 1) fun (N10 : Int) => (.int .i64 N10 : Value) = .int .i64 N8) ∧
        C_ref36_Size B1 N7 h_7 fun (r5 : Int) h_8 =>
        (Ld (.int .u64) h_8 (k1.add 6) fun (B5 : Int) => (.int .u64 B5 : Value) = .int .u64 B2) ∧
        (Ld (.int .i64) h_8 (k1.add 1) fun (N11 : Int) => (.int .i64 N11 : Value) = .int .i64 N8) ∧
        C_ref36_Size (bitV .and .u64 set_ B2) N8 h_8 fun (r6 : Int) h_9 =>
        J (decide (r4 > (IntKind.i64.wrap (r5 - r6)))) h_9
      else
        J false h_6
      )
    else
      Ld (.int .i64) h_ k1 fun (Kind2 : Int) =>
      (bif Kind2 == 3 then
        Ld (.int .i64) h_ (k1.add 1) fun (N12 : Int) =>
        Ld (.int .i64) h_ (k1.add 3) fun (K_ : Int) =>
        C_ref36_Size set_ N12 h_ fun (r7 : Int) h_10 =>
        (Ld (.int .i64) h_10 (k1.add 3) fun (K_1 : Int) => (.int .i64 K_1 : Value) = .int .i64 K_) ∧
        R (decide (r7 ≥ K_)) h_10
      else
        Ld (.int .i64) h_ (k1.add 1) fun (N13 : Int) =>
        Ld (.int .i64) h_ (k1.add 2) fun (Rows : Int) =>
        Nz Rows (
        Let (divV .quo .i64 N13 Rows : Int) fun columns =>
        Loop [.one .bool, .one (.int .i64)] (fun _ (row : Bool) (r8 : Int) h_11 go1 =>
          Ld (.int .i64) h_11 (k1.add 2) fun (Rows1 : Int) =>
          (bif decide (r8 < Rows1) then
            Loop [.one (.int .i64), .one (.int .i64)] (fun _ (n : Int) (c : Int) h_12 go2 =>
              (bif decide (c < columns) then
                C_ref36_In set_ (IntKind.i64.wrap ((IntKind.i64.wrap (r8 * columns)) + c)) h_12 fun (r9 : Bool) h_13 =>
                (bif r9 then
                  Let (IntKind.i64.wrap (n + 1) : Int) fun n1 =>
                  Let (IntKind.i64.wrap (c + 1) : Int) fun c1 =>
                  go2 n1 c1 h_13
                else
                  Let (IntKind.i64.wrap (c + 1) : Int) fun c2 =>
                  go2 n c2 h_13
                )
              else
                (bif n == 0 then
                  R false h_12
                else
                  (bif row then
                    Let (IntKind.i64.wrap (r8 + 1) : Int) fun r10 =>
                    go1 true r10 h_12
                  else
                    Let (n == columns : Bool) fun row1 =>
                    Let (IntKind.i64.wrap (r8 + 1) : Int) fun r11 =>
                    go1 row1 r11 h_12
                  )
                )
              )
              ) (0, 0, ()) h_11
          else
            R row h_11
          )
          ) (false, 0, ()) h_
        )
      )
    )
  )
theorem E_ref36_Kind_Is (k : KL [.int .i64, .int .i64, .int .i64, .int .i64, .sl, .int .u64, .int .u64]) (set_ : Int) (h : Heap) (R : Bool → Heap → Prop) :
    VF Try.prog [(426, [(5, .one (.int .i64)), (6, .one (.int .i64)), (20, .one (.int .i64))]), (116, [(4, .one .bool)]), (1018, [(10, .one .bool), (11, .one (.int .i64))]), (260682, [(12, .one (.int .i64)), (13, .one (.int .i64))])] Try.f72 [.agg ⟨KL.vals [.int .i64, .int .i64, .int .i64, .int .i64, .sl, .int .u64, .int .u64] k⟩, .int .u64 set_] h [.one .bool] R = S_ref36_Kind_Is k set_ h R := by kernel_rfl
theorem A_ref36_Kind_Is {k : KL [.int .i64, .int .i64, .int .i64, .int .i64, .sl, .int .u64, .int .u64]} {set_ : Int} {h : Heap} {R : Bool → Heap → Prop} (hs : S_ref36_Kind_Is k set_ h R) : C_ref36_Kind_Is k set_ h R :=
  use_ Try.func72 (by kernel_rfl) (E_ref36_Kind_Is k set_ h R) hs

/-- (kissinggateref36.Kind).Least -/
def S_ref36_Kind_Least (k : KL [.int .i64, .int .i64, .int .i64, .int .i64, .sl, .int .u64, .int .u64]) (h : Heap) (R : Sl → Heap → Prop) : Prop :=
  Alloc h (.cells #[.int .i64 k.1, .int .i64 k.2.1, .int .i64 k.2.2.1, .int .i64 k.2.2.2.1, .slice k.2.2.2.2.1.a k.2.2.2.2.1.n k.2.2.2.2.1.c, .int .u64 k.2.2.2.2.2.1, .int .u64 k.2.2.2.2.2.2.1] 70) fun k1 h_ =>
  Loop [.one .sl, .one (.int .u64)] (fun _ (out : Sl) (set_ : Int) h_1 go =>
    Ld (.int .i64) h_1 (k1.add 1) fun (N : Int) =>
    Nneg (IntKind.u64.wrap N) (
    (bif decide (set_ < (shiftV .shl .u64 1 (IntKind.u64.wrap N))) then
      Ld (.int .i64) h_1 k1 fun (x_Kind : Int) =>
      Ld (.int .i64) h_1 (k1.add 1) fun (x_N : Int) =>
      Ld (.int .i64) h_1 (k1.add 2) fun (x_Rows : Int) =>
      Ld (.int .i64) h_1 (k1.add 3) fun (x_K : Int) =>
      Ld .sl h_1 (k1.add 4) fun (x_Weights : Sl) =>
      Ld (.int .u64) h_1 (k1.add 5) fun (x_A : Int) =>
      Ld (.int .u64) h_1 (k1.add 6) fun (x_B : Int) =>
      C_ref36_Kind_Is (x_Kind, x_N, x_Rows, x_K, x_Weights, x_A, x_B, ()) set_ h_1 fun (r : Bool) h_2 =>
      Loop [.one .bool, .one (.int .i64)] (fun _ (least : Bool) (i : Int) h_3 go1 =>
        Ld (.int .i64) h_3 (k1.add 1) fun (N1 : Int) =>
        (bif decide (i < N1) then
          (bif least then
            C_ref36_In set_ i h_3 fun (r1 : Bool) h_4 =>
            (bif !r1 then
              Let (IntKind.i64.wrap (i + 1) : Int) fun i1 =>
              go1 true i1 h_4
            else
              Ld (.int .i64) h_4 k1 fun (x_Kind1 : Int) =>
              Ld (.int .i64) h_4 (k1.add 1) fun (x_N1 : Int) =>
              Ld (.int .i64) h_4 (k1.add 2) fun (x_Rows1 : Int) =>
              Ld (.int .i64) h_4 (k1.add 3) fun (x_K1 : Int) =>
              Ld .sl h_4 (k1.add 4) fun (x_Weights1 : Sl) =>
              Ld (.int .u64) h_4 (k1.add 5) fun (x_A1 : Int) =>
              Ld (.int .u64) h_4 (k1.add 6) fun (x_B1 : Int) =>
              Nneg (IntKind.u64.wrap i) (
              C_ref36_Kind_Is (x_Kind1, x_N1, x_Rows1, x_K1, x_Weights1, x_A1, x_B1, ()) (IntKind.u64.wrap (set_ - (shiftV .shl .u64 1 (IntKind.u64.wrap i)))) h_4 fun (r2 : Bool) h_5 =>
              Let (!r2 : Bool) fun least1 =>
              Let (IntKind.i64.wrap (i + 1) : Int) fun i2 =>
              go1 least1 i2 h_5
              )
            )
          else
            Let (IntKind.i64.wrap (i + 1) : Int) fun i3 =>
            go1 false i3 h_3
          )
        else
          (bif least then
            Alloc h_3 (.cells #[.int .u64 set_] 38) fun b h_6 =>
            App Try.prog 79 79 out ⟨some b, 1, 1⟩ h_6 fun s h_7 =>
            Let (IntKind.u64.wrap (set_ + 1) : Int) fun set_1 =>
            go s set_1 h_7
          else
            Let (IntKind.u64.wrap (set_ + 1) : Int) fun set_2 =>
            go out set_2 h_3
          )
        )
        ) (r, 0, ()) h_2
    else
      R out h_1
    )
    )
    ) (⟨none, 0, 0⟩, 0, ()) h_
theorem E_ref36_Kind_Least (k : KL [.int .i64, .int .i64, .int .i64, .int .i64, .sl, .int .u64, .int .u64]) (h : Heap) (R : Sl → Heap → Prop) :
    VF Try.prog [(58, [(3, .one .sl), (4, .one (.int .u64))]), (14922, [(5, .one .bool), (6, .one (.int .i64))])] Try.f74 [.agg ⟨KL.vals [.int .i64, .int .i64, .int .i64, .int .i64, .sl, .int .u64, .int .u64] k⟩] h [.one .sl] R = S_ref36_Kind_Least k h R := by kernel_rfl
theorem A_ref36_Kind_Least {k : KL [.int .i64, .int .i64, .int .i64, .int .i64, .sl, .int .u64, .int .u64]} {h : Heap} {R : Sl → Heap → Prop} (hs : S_ref36_Kind_Least k h R) : C_ref36_Kind_Least k h R :=
  use_ Try.func74 (by kernel_rfl) (E_ref36_Kind_Least k h R) hs

/-- kissinggateref36.In -/
def S_ref36_In (set_ : Int) (i : Int) (h : Heap) (R : Bool → Heap → Prop) : Prop :=
  Nneg (IntKind.u64.wrap i) (
  Nz (shiftV .shl .u64 1 (IntKind.u64.wrap i)) (
  Nz 2 (
  R ((divV .rem .u64 (divV .quo .u64 set_ (shiftV .shl .u64 1 (IntKind.u64.wrap i))) 2) == 1) h
  )
  )
  )
theorem E_ref36_In (set_ : Int) (i : Int) (h : Heap) (R : Bool → Heap → Prop) :
    VF Try.prog [] Try.f77 [.int .u64 set_, .int .i64 i] h [.one .bool] R = S_ref36_In set_ i h R := by kernel_rfl
theorem A_ref36_In {set_ : Int} {i : Int} {h : Heap} {R : Bool → Heap → Prop} (hs : S_ref36_In set_ i h R) : C_ref36_In set_ i h R :=
  use_ Try.func77 (by kernel_rfl) (E_ref36_In set_ i h R) hs

end Go.Proofs.Ytegbnmaglkpkjaa
