/- Printed by a program: what each function asks of the heap, that this is the reading of its code, and what follows for a call. -/
import Derived.Test.YtegbnmaglkpkjaaSC
import Derived.Test.YtegbnmaglkpkjaaProg
set_option maxRecDepth 1000000
namespace Go.Proofs.Ytegbnmaglkpkjaa
open Go

/-- quorum.Weighted -/
def S_quorum_Weighted (weights : Sl) (h : Heap) (R : Option Addr → Heap → Prop) : Prop :=
  Loop [.one (.int .i64), .one (.int .i64)] (fun _ (sum : Int) (x8 : Int) h_ go =>
    (bif decide (x8 < (weights.n : Int)) then
      Ix weights x8 1 fun e =>
      Ld (.int .i64) h_ e fun (x : Int) =>
      (bif decide (x < 0) then
        R none h_
      else
        (bif decide (x > 64) then
          R none h_
        else
          Let (IntKind.i64.wrap (sum + x) : Int) fun sum1 =>
          go sum1 (IntKind.i64.wrap (x8 + 1)) h_
        )
      )
    else
      C_quorum_nodes (weights.n : Int) h_ fun (r : Bool) h_1 =>
      (bif !r then
        R none h_1
      else
        (bif sum == 0 then
          R none h_1
        else
          C_slices_Clone_int_int weights h_1 fun (r1 : Sl) h_2 =>
          Alloc h_2 (.cells #[.int .i64 (weights.n : Int), .iface 99 (.agg #[.slice r1.a r1.n r1.c, .int .i64 sum])] 103) fun p h_3 =>
          R (some p) h_3
        )
      )
    )
    ) (0, 0, ()) h
theorem E_quorum_Weighted (weights : Sl) (h : Heap) (R : Option Addr → Heap → Prop) :
    VF Try.prog [(58, [(3, .one (.int .i64)), (8, .one (.int .i64))])] Try.f38 [.slice weights.a weights.n weights.c] h [.one .ptr] R = S_quorum_Weighted weights h R := by kernel_rfl
theorem A_quorum_Weighted {weights : Sl} {h : Heap} {R : Option Addr → Heap → Prop} (hs : S_quorum_Weighted weights h R) : C_quorum_Weighted weights h R :=
  use_ Try.func38 (by kernel_rfl) (E_quorum_Weighted weights h R) hs

/-- quorum.AtLeast -/
def S_quorum_AtLeast (n : Int) (k : Int) (h : Heap) (R : Option Addr → Heap → Prop) : Prop :=
  C_quorum_nodes n h fun (r : Bool) h_ =>
  (bif !r then
    R none h_
  else
    (bif decide (k < 1) then
      R none h_
    else
      (bif decide (k > n) then
        R none h_
      else
        Alloc h_ (.cells #[.int .i64 n, .iface 104 (.int .i64 k)] 103) fun p h_1 =>
        R (some p) h_1
      )
    )
  )
theorem E_quorum_AtLeast (n : Int) (k : Int) (h : Heap) (R : Option Addr → Heap → Prop) :
    VF Try.prog [] Try.f39 [.int .i64 n, .int .i64 k] h [.one .ptr] R = S_quorum_AtLeast n k h R := by kernel_rfl
theorem A_quorum_AtLeast {n : Int} {k : Int} {h : Heap} {R : Option Addr → Heap → Prop} (hs : S_quorum_AtLeast n k h R) : C_quorum_AtLeast n k h R :=
  use_ Try.func39 (by kernel_rfl) (E_quorum_AtLeast n k h R) hs

/-- quorum.Most -/
def S_quorum_Most (n : Int) (h : Heap) (R : Option Addr → Heap → Prop) : Prop :=
  C_quorum_nodes n h fun (r : Bool) h_ =>
  (bif !r then
    R none h_
  else
    Alloc h_ (.cells #[.int .i64 1] 3) fun b h_1 =>
    C_slices_Repeat_int_int ⟨some b, 1, 1⟩ n h_1 fun (r1 : Sl) h_2 =>
    C_quorum_Weighted r1 h_2 fun (r2 : Option Addr) h_3 =>
    R r2 h_3
  )
theorem E_quorum_Most (n : Int) (h : Heap) (R : Option Addr → Heap → Prop) :
    VF Try.prog [] Try.f40 [.int .i64 n] h [.one .ptr] R = S_quorum_Most n h R := by kernel_rfl
theorem A_quorum_Most {n : Int} {h : Heap} {R : Option Addr → Heap → Prop} (hs : S_quorum_Most n h R) : C_quorum_Most n h R :=
  use_ Try.func40 (by kernel_rfl) (E_quorum_Most n h R) hs

/-- quorum.Joint -/
def S_quorum_Joint (n : Int) (a : Int) (b : Int) (h : Heap) (R : Option Addr → Heap → Prop) : Prop :=
  C_quorum_nodes n h fun (r : Bool) h_ =>
  (bif !r then
    R none h_
  else
    C_quorum_all n h_ fun (r1 : Int) h_1 =>
    (bif (bitV .and .u64 a r1) == 0 then
      R none h_1
    else
      C_quorum_all n h_1 fun (r2 : Int) h_2 =>
      (bif (bitV .and .u64 b r2) == 0 then
        R none h_2
      else
        C_quorum_all n h_2 fun (r3 : Int) h_3 =>
        C_quorum_all n h_3 fun (r4 : Int) h_4 =>
        Alloc h_4 (.cells #[.int .i64 n, .iface 110 (.agg #[.int .u64 (bitV .and .u64 a r3), .int .u64 (bitV .and .u64 b r4)])] 103) fun p h_5 =>
        R (some p) h_5
      )
    )
  )
theorem E_quorum_Joint (n : Int) (a : Int) (b : Int) (h : Heap) (R : Option Addr → Heap → Prop) :
    VF Try.prog [] Try.f42 [.int .i64 n, .int .u64 a, .int .u64 b] h [.one .ptr] R = S_quorum_Joint n a b h R := by kernel_rfl
theorem A_quorum_Joint {n : Int} {a : Int} {b : Int} {h : Heap} {R : Option Addr → Heap → Prop} (hs : S_quorum_Joint n a b h R) : C_quorum_Joint n a b h R :=
  use_ Try.func42 (by kernel_rfl) (E_quorum_Joint n a b h R) hs

/-- quorum.Grid -/
def S_quorum_Grid (rows : Int) (columns : Int) (h : Heap) (R : Option Addr → Heap → Prop) : Prop :=
  C_quorum_nodes rows h fun (r : Bool) h_ =>
  (bif !r then
    R none h_
  else
    C_quorum_nodes columns h_ fun (r1 : Bool) h_1 =>
    (bif !r1 then
      R none h_1
    else
      C_quorum_nodes (IntKind.i64.wrap (rows * columns)) h_1 fun (r2 : Bool) h_2 =>
      (bif !r2 then
        R none h_2
      else
        Alloc h_2 (.cells #[.int .i64 (IntKind.i64.wrap (rows * columns)), .iface 112 (.agg #[.int .i64 rows, .int .i64 columns])] 103) fun p h_3 =>
        R (some p) h_3
      )
    )
  )
theorem E_quorum_Grid (rows : Int) (columns : Int) (h : Heap) (R : Option Addr → Heap → Prop) :
    VF Try.prog [] Try.f43 [.int .i64 rows, .int .i64 columns] h [.one .ptr] R = S_quorum_Grid rows columns h R := by kernel_rfl
theorem A_quorum_Grid {rows : Int} {columns : Int} {h : Heap} {R : Option Addr → Heap → Prop} (hs : S_quorum_Grid rows columns h R) : C_quorum_Grid rows columns h R :=
  use_ Try.func43 (by kernel_rfl) (E_quorum_Grid rows columns h R) hs

/-- (*quorum.System).Meets -/
def S_quorum_System_Meets (s : Option Addr) (t : Option Addr) (h : Heap) (R : Bool → Heap → Prop) : Prop :=
  Join [.one .bool] (fun _ (x24 : Bool) h_ =>
    (bif x24 then
      R false h_
    else
      C_quorum_System_Least t h_ fun (r : Sl) h_1 =>
      C_quorum_System_Least s h_1 fun (r1 : Sl) h_2 =>
      Loop [.one (.int .i64)] (fun _ (x30 : Int) h_3 go =>
        (bif decide (x30 < (r1.n : Int)) then
          Ix r1 x30 1 fun e =>
          Ld (.int .u64) h_3 e fun (x : Int) =>
          Alloc h_3 (.cells #[.int .u64 0] 38) fun a h_4 =>
          St h_4 a (.int .u64 x) fun h_5 =>
          C_slices_ContainsFunc_uint_uint r (.func (.func 79) #[] #[.pointer (some a)]) h_5 fun (r2 : Bool) h_6 =>
          (bif r2 then
            R false h_6
          else
            go (IntKind.i64.wrap (x30 + 1)) h_6
          )
        else
          R true h_3
        )
        ) (0, ()) h_2
    )
    ) fun J =>
  (bif s.isNone then
    J true h
  else
    (bif t.isNone then
      J true h
    else
      Nn s fun p =>
      Ld (.int .i64) h p fun (n : Int) =>
      Nn t fun p1 =>
      Ld (.int .i64) h p1 fun (n1 : Int) =>
      J (n != n1) h
    )
  )
theorem E_quorum_System_Meets (s : Option Addr) (t : Option Addr) (h : Heap) (R : Bool → Heap → Prop) :
    VF Try.prog [(12, [(24, .one .bool)]), (122, [(30, .one (.int .i64))])] Try.f45 [.pointer s, .pointer t] h [.one .bool] R = S_quorum_System_Meets s t h R := by kernel_rfl
theorem A_quorum_System_Meets {s : Option Addr} {t : Option Addr} {h : Heap} {R : Bool → Heap → Prop} (hs : S_quorum_System_Meets s t h R) : C_quorum_System_Meets s t h R :=
  use_ Try.func45 (by kernel_rfl) (E_quorum_System_Meets s t h R) hs

/-- (*quorum.System).Is -/
def S_quorum_System_Is (s : Option Addr) (set_ : Int) (h : Heap) (R : Bool → Heap → Prop) : Prop :=
  (bif !s.isNone then
    Nn s fun p =>
    Ld .val h (p.add 1) fun (rule : Value) =>
    Nn s fun p1 =>
    Ld (.int .i64) h p1 fun (n : Int) =>
    NnI rule fun (x : Value) =>
    C_quorum_all n h fun (r : Int) h_ =>
    (Ld .val h_ (p.add 1) fun (rule1 : Value) => (rule1 : Value) = rule) ∧
    Invk Try.prog rule "kissinggate/quorum.holds" [.int .u64 (bitV .and .u64 set_ r)] h_ [.one .bool] fun (r1 : Bool) h_1 =>
    R r1 h_1
  else
    R false h
  )
theorem E_quorum_System_Is (s : Option Addr) (set_ : Int) (h : Heap) (R : Bool → Heap → Prop) :
    VF Try.prog [] Try.f46 [.pointer s, .int .u64 set_] h [.one .bool] R = S_quorum_System_Is s set_ h R := by kernel_rfl
theorem A_quorum_System_Is {s : Option Addr} {set_ : Int} {h : Heap} {R : Bool → Heap → Prop} (hs : S_quorum_System_Is s set_ h R) : C_quorum_System_Is s set_ h R :=
  use_ Try.func46 (by kernel_rfl) (E_quorum_System_Is s set_ h R) hs

/-- (*quorum.System).Nodes -/
def S_quorum_System_Nodes (s : Option Addr) (h : Heap) (R : Int → Heap → Prop) : Prop :=
  (bif s.isNone then
    R 0 h
  else
    Nn s fun p =>
    Ld (.int .i64) h p fun (n : Int) =>
    R n h
  )
theorem E_quorum_System_Nodes (s : Option Addr) (h : Heap) (R : Int → Heap → Prop) :
    VF Try.prog [] Try.f47 [.pointer s] h [.one (.int .i64)] R = S_quorum_System_Nodes s h R := by kernel_rfl
theorem A_quorum_System_Nodes {s : Option Addr} {h : Heap} {R : Int → Heap → Prop} (hs : S_quorum_System_Nodes s h R) : C_quorum_System_Nodes s h R :=
  use_ Try.func47 (by kernel_rfl) (E_quorum_System_Nodes s h R) hs

/-- (*quorum.System).Least -/
def S_quorum_System_Least (s : Option Addr) (h : Heap) (R : Sl → Heap → Prop) : Prop :=
  (bif s.isNone then
    R ⟨none, 0, 0⟩ h
  else
    Nn s fun p =>
    Ld (.int .i64) h p fun (n : Int) =>
    C_quorum_all n h fun (r : Int) h_ =>
    Loop [.one .sl, .one (.int .u64)] (fun _ (out : Sl) (x13 : Int) h_1 go =>
      (bif decide (x13 < (IntKind.u64.wrap (r + 1))) then
        C_quorum_System_least s x13 h_1 fun (r1 : Bool) h_2 =>
        (bif r1 then
          Alloc h_2 (.cells #[.int .u64 x13] 38) fun b h_3 =>
          App Try.prog 79 79 out ⟨some b, 1, 1⟩ h_3 fun s1 h_4 =>
          go s1 (IntKind.u64.wrap (x13 + 1)) h_4
        else
          go out (IntKind.u64.wrap (x13 + 1)) h_2
        )
      else
        R out h_1
      )
      ) (⟨none, 0, 0⟩, 0, ()) h_
  )
theorem E_quorum_System_Least (s : Option Addr) (h : Heap) (R : Sl → Heap → Prop) :
    VF Try.prog [(122, [(3, .one .sl), (13, .one (.int .u64))])] Try.f48 [.pointer s] h [.one .sl] R = S_quorum_System_Least s h R := by kernel_rfl
theorem A_quorum_System_Least {s : Option Addr} {h : Heap} {R : Sl → Heap → Prop} (hs : S_quorum_System_Least s h R) : C_quorum_System_Least s h R :=
  use_ Try.func48 (by kernel_rfl) (E_quorum_System_Least s h R) hs

/-- (*quorum.System).Tolerates -/
def S_quorum_System_Tolerates (s : Option Addr) (h : Heap) (R : Int → Heap → Prop) : Prop :=
  (bif s.isNone then
    R 0 h
  else
    Nn s fun p =>
    Ld (.int .i64) h p fun (n : Int) =>
    Nn s fun p1 =>
    Ld (.int .i64) h p1 fun (n1 : Int) =>
    C_quorum_all n1 h fun (r : Int) h_ =>
    Loop [.one (.int .i64), .one (.int .u64)] (fun _ (least : Int) (x17 : Int) h_1 go =>
      (bif decide (x17 < (IntKind.u64.wrap (r + 1))) then
        C_quorum_System_Survives s x17 h_1 fun (r1 : Bool) h_2 =>
        (bif !r1 then
          C_math_bits_OnesCount x17 h_2 fun (r2 : Int) h_3 =>
          Let (if r2 < least then r2 else least : Int) fun least1 =>
          go least1 (IntKind.u64.wrap (x17 + 1)) h_3
        else
          go least (IntKind.u64.wrap (x17 + 1)) h_2
        )
      else
        R (IntKind.i64.wrap (least - 1)) h_1
      )
      ) (n, 0, ()) h_
  )
theorem E_quorum_System_Tolerates (s : Option Addr) (h : Heap) (R : Int → Heap → Prop) :
    VF Try.prog [(122, [(3, .one (.int .i64)), (17, .one (.int .u64))])] Try.f68 [.pointer s] h [.one (.int .i64)] R = S_quorum_System_Tolerates s h R := by kernel_rfl
theorem A_quorum_System_Tolerates {s : Option Addr} {h : Heap} {R : Int → Heap → Prop} (hs : S_quorum_System_Tolerates s h R) : C_quorum_System_Tolerates s h R :=
  use_ Try.func68 (by kernel_rfl) (E_quorum_System_Tolerates s h R) hs

/-- quorum.nodes -/
def S_quorum_nodes (n : Int) (h : Heap) (R : Bool → Heap → Prop) : Prop :=
  (bif decide (n ≥ 1) then
    R (decide (n ≤ 7)) h
  else
    R false h
  )
theorem E_quorum_nodes (n : Int) (h : Heap) (R : Bool → Heap → Prop) :
    VF Try.prog [] Try.f69 [.int .i64 n] h [.one .bool] R = S_quorum_nodes n h R := by kernel_rfl
theorem A_quorum_nodes {n : Int} {h : Heap} {R : Bool → Heap → Prop} (hs : S_quorum_nodes n h R) : C_quorum_nodes n h R :=
  use_ Try.func69 (by kernel_rfl) (E_quorum_nodes n h R) hs

/-- slices.Clone[[]int,int] -/
def S_slices_Clone_int_int (s : Sl) (h : Heap) (R : Sl → Heap → Prop) : Prop :=
  (bif s.a.isNone then
    R ⟨none, 0, 0⟩ h
  else
    Alloc h (.cells #[] 3) fun b h_ =>
    App Try.prog 51 51 ⟨some b, 0, 0⟩ s h_ fun s1 h_1 =>
    R s1 h_1
  )
theorem E_slices_Clone_int_int (s : Sl) (h : Heap) (R : Sl → Heap → Prop) :
    VF Try.prog [] Try.f70 [.slice s.a s.n s.c] h [.one .sl] R = S_slices_Clone_int_int s h R := by kernel_rfl
theorem A_slices_Clone_int_int {s : Sl} {h : Heap} {R : Sl → Heap → Prop} (hs : S_slices_Clone_int_int s h R) : C_slices_Clone_int_int s h R :=
  use_ Try.func70 (by kernel_rfl) (E_slices_Clone_int_int s h R) hs

/-- slices.Repeat[[]int,int] -/
def S_slices_Repeat_int_int (x : Sl) (count : Int) (h : Heap) (R : Sl → Heap → Prop) : Prop :=
  Join [] (fun _ h_ =>
    C_math_bits_Mul (IntKind.u64.wrap (x.n : Int)) (IntKind.u64.wrap count) h_ fun (r : Int) (r1 : Int) h_1 =>
    Join [.one .bool] (fun _ (x26 : Bool) h_2 =>
      Join [] (fun _ h_3 =>
        Mk Try.prog 51 (IntKind.i64.wrap r1) (IntKind.i64.wrap r1) h_3 fun s h_4 =>
        OpT Try.prog (Builtin.copy_ #[51, 51] 3 #[.slice s.a s.n s.c, .slice x.a x.n x.c]) h_4 [.one (.int .i64)] fun n h_5 =>
        Loop [.one (.int .i64)] (fun _ (n1 : Int) h_6 go =>
          (bif decide (n1 < (s.n : Int)) then
            Cut Try.prog 51 s (some (.int .i64 n1)) none none fun s1 =>
            Cut Try.prog 51 s none (some (.int .i64 n1)) none fun s2 =>
            OpT Try.prog (Builtin.copy_ #[51, 51] 3 #[.slice s1.a s1.n s1.c, .slice s2.a s2.n s2.c]) h_6 [.one (.int .i64)] fun n2 h_7 =>
            Let (IntKind.i64.wrap (n1 + n2) : Int) fun n3 =>
            go n3 h_7
          else
            R s h_6
          )
          ) (n, ()) h_5
        ) fun J2 =>
      (bif x26 then
        False
      else
        J2  h_2
      )
      ) fun J1 =>
    (bif decide (r > 0) then
      J1 true h_1
    else
      J1 (decide (r1 > 9223372036854775807)) h_1
    )
    ) fun J =>
  (bif decide (count < 0) then
    False
  else
    J  h
  )
theorem E_slices_Repeat_int_int (x : Sl) (count : Int) (h : Heap) (R : Sl → Heap → Prop) :
    VF Try.prog [(13, []), (60, [(26, .one .bool)]), (61, []), (508, [(8, .one (.int .i64))])] Try.f71 [.slice x.a x.n x.c, .int .i64 count] h [.one .sl] R = S_slices_Repeat_int_int x count h R := by kernel_rfl
theorem A_slices_Repeat_int_int {x : Sl} {count : Int} {h : Heap} {R : Sl → Heap → Prop} (hs : S_slices_Repeat_int_int x count h R) : C_slices_Repeat_int_int x count h R :=
  use_ Try.func71 (by kernel_rfl) (E_slices_Repeat_int_int x count h R) hs

/-- (*quorum.System).Survives -/
def S_quorum_System_Survives (s : Option Addr) (down : Int) (h : Heap) (R : Bool → Heap → Prop) : Prop :=
  (bif !s.isNone then
    Nn s fun p =>
    Ld (.int .i64) h p fun (n : Int) =>
    C_quorum_all n h fun (r : Int) h_ =>
    C_quorum_System_Is s (bitV .andNot .u64 r down) h_ fun (r1 : Bool) h_1 =>
    R r1 h_1
  else
    R false h
  )
theorem E_quorum_System_Survives (s : Option Addr) (down : Int) (h : Heap) (R : Bool → Heap → Prop) :
    VF Try.prog [] Try.f75 [.pointer s, .int .u64 down] h [.one .bool] R = S_quorum_System_Survives s down h R := by kernel_rfl
theorem A_quorum_System_Survives {s : Option Addr} {down : Int} {h : Heap} {R : Bool → Heap → Prop} (hs : S_quorum_System_Survives s down h R) : C_quorum_System_Survives s down h R :=
  use_ Try.func75 (by kernel_rfl) (E_quorum_System_Survives s down h R) hs

/-- quorum.all -/
def S_quorum_all (n : Int) (h : Heap) (R : Int → Heap → Prop) : Prop :=
  Nneg (IntKind.u64.wrap n) (
  R (IntKind.u64.wrap ((shiftV .shl .u64 1 (IntKind.u64.wrap n)) - 1)) h
  )
theorem E_quorum_all (n : Int) (h : Heap) (R : Int → Heap → Prop) :
    VF Try.prog [] Try.f76 [.int .i64 n] h [.one (.int .u64)] R = S_quorum_all n h R := by kernel_rfl
theorem A_quorum_all {n : Int} {h : Heap} {R : Int → Heap → Prop} (hs : S_quorum_all n h R) : C_quorum_all n h R :=
  use_ Try.func76 (by kernel_rfl) (E_quorum_all n h R) hs

/-- slices.ContainsFunc[[]uint,uint] -/
def S_slices_ContainsFunc_uint_uint (s : Sl) (cap : Option Addr) (h : Heap) (R : Bool → Heap → Prop) : Prop :=
  C_slices_IndexFunc_uint_uint s (.func (.func 79) #[] #[.pointer cap]) h fun (r : Int) h_ =>
  R (decide (r ≥ 0)) h_
theorem E_slices_ContainsFunc_uint_uint (s : Sl) (cap : Option Addr) (h : Heap) (R : Bool → Heap → Prop) :
    VF Try.prog [] Try.f78 [.slice s.a s.n s.c, .func (.func 79) #[] #[.pointer cap]] h [.one .bool] R = S_slices_ContainsFunc_uint_uint s cap h R := by kernel_rfl
theorem A_slices_ContainsFunc_uint_uint {s : Sl} {cap : Option Addr} {h : Heap} {R : Bool → Heap → Prop} (hs : S_slices_ContainsFunc_uint_uint s cap h R) : C_slices_ContainsFunc_uint_uint s (.func (.func 79) #[] #[.pointer cap]) h R :=
  use_ Try.func78 (by kernel_rfl) (E_slices_ContainsFunc_uint_uint s cap h R) hs

/-- (*quorum.System).Meets$1 -/
def S_quorum_System_Meets_1 (b : Int) (fv : Addr) (h : Heap) (R : Bool → Heap → Prop) : Prop :=
  Ld (.int .u64) h fv fun (x : Int) =>
  R ((bitV .and .u64 x b) == 0) h
theorem E_quorum_System_Meets_1 (b : Int) (fv : Addr) (h : Heap) (R : Bool → Heap → Prop) :
    VF Try.prog [] Try.f79 [.int .u64 b, .pointer (some fv)] h [.one .bool] R = S_quorum_System_Meets_1 b fv h R := by kernel_rfl
theorem A_quorum_System_Meets_1 {b : Int} {fv : Addr} {h : Heap} {R : Bool → Heap → Prop} (hs : S_quorum_System_Meets_1 b fv h R) : C_quorum_System_Meets_1 b (some fv) h R :=
  use_ Try.func79 (by kernel_rfl) (E_quorum_System_Meets_1 b fv h R) hs

/-- (*quorum.System).least -/
def S_quorum_System_least (s : Option Addr) (set_ : Int) (h : Heap) (R : Bool → Heap → Prop) : Prop :=
  Nn s fun p =>
  Ld (.int .i64) h p fun (n : Int) =>
  Loop [.one (.int .i64)] (fun _ (x10 : Int) h_ go =>
    (bif decide (x10 < n) then
      Nneg (IntKind.u64.wrap x10) (
      (bif (bitV .and .u64 (shiftV .shr .u64 set_ (IntKind.u64.wrap x10)) 1) == 1 then
        Nneg (IntKind.u64.wrap x10) (
        C_quorum_System_Is s (bitV .andNot .u64 set_ (shiftV .shl .u64 1 (IntKind.u64.wrap x10))) h_ fun (r : Bool) h_1 =>
        (bif r then
          R false h_1
        else
          go (IntKind.i64.wrap (x10 + 1)) h_1
        )
        )
      else
        go (IntKind.i64.wrap (x10 + 1)) h_
      )
      )
    else
      C_quorum_System_Is s set_ h_ fun (r1 : Bool) h_2 =>
      R r1 h_2
    )
    ) (0, ()) h
theorem E_quorum_System_least (s : Option Addr) (set_ : Int) (h : Heap) (R : Bool → Heap → Prop) :
    VF Try.prog [(26, [(10, .one (.int .i64))])] Try.f80 [.pointer s, .int .u64 set_] h [.one .bool] R = S_quorum_System_least s set_ h R := by kernel_rfl
theorem A_quorum_System_least {s : Option Addr} {set_ : Int} {h : Heap} {R : Bool → Heap → Prop} (hs : S_quorum_System_least s set_ h R) : C_quorum_System_least s set_ h R :=
  use_ Try.func80 (by kernel_rfl) (E_quorum_System_least s set_ h R) hs

/-- math.bits.OnesCount -/
def S_math_bits_OnesCount (x : Int) (h : Heap) (R : Int → Heap → Prop) : Prop :=
  C_math_bits_OnesCount64 x h fun (r : Int) h_ =>
  R r h_
theorem E_math_bits_OnesCount (x : Int) (h : Heap) (R : Int → Heap → Prop) :
    VF Try.prog [] Try.f85 [.int .u64 x] h [.one (.int .i64)] R = S_math_bits_OnesCount x h R := by kernel_rfl
theorem A_math_bits_OnesCount {x : Int} {h : Heap} {R : Int → Heap → Prop} (hs : S_math_bits_OnesCount x h R) : C_math_bits_OnesCount x h R :=
  use_ Try.func85 (by kernel_rfl) (E_math_bits_OnesCount x h R) hs

/-- math.bits.Mul -/
def S_math_bits_Mul (x : Int) (y : Int) (h : Heap) (R : Int → Int → Heap → Prop) : Prop :=
  C_math_bits_Mul64 x y h fun (r : Int) (r1 : Int) h_ =>
  R r r1 h_
theorem E_math_bits_Mul (x : Int) (y : Int) (h : Heap) (R : Int → Int → Heap → Prop) :
    VF Try.prog [] Try.f86 [.int .u64 x, .int .u64 y] h [.one (.int .u64), .one (.int .u64)] R = S_math_bits_Mul x y h R := by kernel_rfl
theorem A_math_bits_Mul {x : Int} {y : Int} {h : Heap} {R : Int → Int → Heap → Prop} (hs : S_math_bits_Mul x y h R) : C_math_bits_Mul x y h R :=
  use_ Try.func86 (by kernel_rfl) (E_math_bits_Mul x y h R) hs

/-- slices.IndexFunc[[]uint,uint] -/
def S_slices_IndexFunc_uint_uint (s : Sl) (cap : Option Addr) (h : Heap) (R : Int → Heap → Prop) : Prop :=
  Loop [.one (.int .i64)] (fun _ (x8 : Int) h_ go =>
    (bif decide (x8 < (s.n : Int)) then
      Ix s x8 1 fun e =>
      Ld (.int .u64) h_ e fun (x : Int) =>
      C_quorum_System_Meets_1 x cap h_ fun (r : Bool) h_1 =>
      (bif r then
        R x8 h_1
      else
        go (IntKind.i64.wrap (x8 + 1)) h_1
      )
    else
      R (-1) h_
    )
    ) (0, ()) h
theorem E_slices_IndexFunc_uint_uint (s : Sl) (cap : Option Addr) (h : Heap) (R : Int → Heap → Prop) :
    VF Try.prog [(26, [(8, .one (.int .i64))])] Try.f87 [.slice s.a s.n s.c, .func (.func 79) #[] #[.pointer cap]] h [.one (.int .i64)] R = S_slices_IndexFunc_uint_uint s cap h R := by kernel_rfl
theorem A_slices_IndexFunc_uint_uint {s : Sl} {cap : Option Addr} {h : Heap} {R : Int → Heap → Prop} (hs : S_slices_IndexFunc_uint_uint s cap h R) : C_slices_IndexFunc_uint_uint s (.func (.func 79) #[] #[.pointer cap]) h R :=
  use_ Try.func87 (by kernel_rfl) (E_slices_IndexFunc_uint_uint s cap h R) hs

/-- math.bits.OnesCount64 -/
def S_math_bits_OnesCount64 (x : Int) (h : Heap) (R : Int → Heap → Prop) : Prop :=
  Nneg 1 (
  Let (IntKind.u64.wrap ((bitV .and .u64 (shiftV .shr .u64 x 1) 6148914691236517205) + (bitV .and .u64 x 6148914691236517205)) : Int) fun x1 =>
  Nneg 2 (
  Let (IntKind.u64.wrap ((bitV .and .u64 (shiftV .shr .u64 x1 2) 3689348814741910323) + (bitV .and .u64 x1 3689348814741910323)) : Int) fun x2 =>
  Nneg 4 (
  Let (bitV .and .u64 (IntKind.u64.wrap ((shiftV .shr .u64 x2 4) + x2)) 1085102592571150095 : Int) fun x3 =>
  Nneg 8 (
  Let (IntKind.u64.wrap (x3 + (shiftV .shr .u64 x3 8)) : Int) fun x4 =>
  Nneg 16 (
  Let (IntKind.u64.wrap (x4 + (shiftV .shr .u64 x4 16)) : Int) fun x5 =>
  Nneg 32 (
  Let (IntKind.u64.wrap (x5 + (shiftV .shr .u64 x5 32)) : Int) fun x6 =>
  R (bitV .and .i64 (IntKind.i64.wrap x6) 127) h
  )
  )
  )
  )
  )
  )
theorem E_math_bits_OnesCount64 (x : Int) (h : Heap) (R : Int → Heap → Prop) :
    VF Try.prog [] Try.f90 [.int .u64 x] h [.one (.int .i64)] R = S_math_bits_OnesCount64 x h R := by kernel_rfl
theorem A_math_bits_OnesCount64 {x : Int} {h : Heap} {R : Int → Heap → Prop} (hs : S_math_bits_OnesCount64 x h R) : C_math_bits_OnesCount64 x h R :=
  use_ Try.func90 (by kernel_rfl) (E_math_bits_OnesCount64 x h R) hs

/-- math.bits.Mul64 -/
def S_math_bits_Mul64 (x : Int) (y : Int) (h : Heap) (R : Int → Int → Heap → Prop) : Prop :=
  Let (bitV .and .u64 x 4294967295 : Int) fun x0 =>
  Nneg 32 (
  Let (shiftV .shr .u64 x 32 : Int) fun x1 =>
  Let (bitV .and .u64 y 4294967295 : Int) fun y0 =>
  Nneg 32 (
  Let (shiftV .shr .u64 y 32 : Int) fun y1 =>
  Let (IntKind.u64.wrap (x0 * y0) : Int) fun w0 =>
  Nneg 32 (
  Let (IntKind.u64.wrap ((IntKind.u64.wrap (x1 * y0)) + (shiftV .shr .u64 w0 32)) : Int) fun t =>
  Let (bitV .and .u64 t 4294967295 : Int) fun w1 =>
  Nneg 32 (
  Let (shiftV .shr .u64 t 32 : Int) fun w2 =>
  Let (IntKind.u64.wrap (w1 + (IntKind.u64.wrap (x0 * y1))) : Int) fun w11 =>
  Nneg 32 (
  Let (IntKind.u64.wrap ((IntKind.u64.wrap ((IntKind.u64.wrap (x1 * y1)) + w2)) + (shiftV .shr .u64 w11 32)) : Int) fun hi =>
  Let (IntKind.u64.wrap (x * y) : Int) fun lo =>
  R hi lo h
  )
  )
  )
  )
  )
theorem E_math_bits_Mul64 (x : Int) (y : Int) (h : Heap) (R : Int → Int → Heap → Prop) :
    VF Try.prog [] Try.f92 [.int .u64 x, .int .u64 y] h [.one (.int .u64), .one (.int .u64)] R = S_math_bits_Mul64 x y h R := by kernel_rfl
theorem A_math_bits_Mul64 {x : Int} {y : Int} {h : Heap} {R : Int → Int → Heap → Prop} (hs : S_math_bits_Mul64 x y h R) : C_math_bits_Mul64 x y h R :=
  use_ Try.func92 (by kernel_rfl) (E_math_bits_Mul64 x y h R) hs

/-- (quorum.weighted).holds -/
def S_quorum_weighted_holds (w : KL [.sl, .int .i64]) (set_ : Int) (h : Heap) (R : Bool → Heap → Prop) : Prop :=
  Alloc h (.cells #[.slice w.1.a w.1.n w.1.c, .int .i64 w.2.1] 99) fun w1 h_ =>
  Ld .sl h_ w1 fun (l : Sl) =>
  Loop [.one (.int .i64), .one (.int .i64)] (fun _ (sum : Int) (x11 : Int) h_1 go =>
    (bif decide (x11 < (l.n : Int)) then
      Ix l x11 1 fun e =>
      Ld (.int .i64) h_1 e fun (x : Int) =>
      Nneg (IntKind.u64.wrap x11) (
      (bif (bitV .and .u64 (shiftV .shr .u64 set_ (IntKind.u64.wrap x11)) 1) == 1 then
        Let (IntKind.i64.wrap (sum + x) : Int) fun sum1 =>
        go sum1 (IntKind.i64.wrap (x11 + 1)) h_1
      else
        go sum (IntKind.i64.wrap (x11 + 1)) h_1
      )
      )
    else
      Ld (.int .i64) h_1 (w1.add 1) fun (all : Int) =>
      R (decide ((IntKind.i64.wrap (2 * sum)) > all)) h_1
    )
    ) (0, 0, ()) h_
theorem E_quorum_weighted_holds (w : KL [.sl, .int .i64]) (set_ : Int) (h : Heap) (R : Bool → Heap → Prop) :
    VF Try.prog [(58, [(5, .one (.int .i64)), (11, .one (.int .i64))])] Try.f135 [.agg ⟨KL.vals [.sl, .int .i64] w⟩, .int .u64 set_] h [.one .bool] R = S_quorum_weighted_holds w set_ h R := by kernel_rfl
theorem A_quorum_weighted_holds {w : KL [.sl, .int .i64]} {set_ : Int} {h : Heap} {R : Bool → Heap → Prop} (hs : S_quorum_weighted_holds w set_ h R) : C_quorum_weighted_holds w set_ h R :=
  use_ Try.func135 (by kernel_rfl) (E_quorum_weighted_holds w set_ h R) hs

/-- (quorum.atLeast).holds -/
def S_quorum_atLeast_holds (k : Int) (set_ : Int) (h : Heap) (R : Bool → Heap → Prop) : Prop :=
  C_math_bits_OnesCount set_ h fun (r : Int) h_ =>
  R (decide (r ≥ k)) h_
theorem E_quorum_atLeast_holds (k : Int) (set_ : Int) (h : Heap) (R : Bool → Heap → Prop) :
    VF Try.prog [] Try.f136 [.int .i64 k, .int .u64 set_] h [.one .bool] R = S_quorum_atLeast_holds k set_ h R := by kernel_rfl
theorem A_quorum_atLeast_holds {k : Int} {set_ : Int} {h : Heap} {R : Bool → Heap → Prop} (hs : S_quorum_atLeast_holds k set_ h R) : C_quorum_atLeast_holds k set_ h R :=
  use_ Try.func136 (by kernel_rfl) (E_quorum_atLeast_holds k set_ h R) hs

/-- (quorum.list).holds -/
def S_quorum_list_holds (l : Int) (set_ : Int) (h : Heap) (R : Bool → Heap → Prop) : Prop :=
  C_math_bits_OnesCount (bitV .and .u64 set_ l) h fun (r : Int) h_ =>
  C_math_bits_OnesCount l h_ fun (r1 : Int) h_1 =>
  R (decide ((IntKind.i64.wrap (2 * r)) > r1)) h_1
theorem E_quorum_list_holds (l : Int) (set_ : Int) (h : Heap) (R : Bool → Heap → Prop) :
    VF Try.prog [] Try.f137 [.int .u64 l, .int .u64 set_] h [.one .bool] R = S_quorum_list_holds l set_ h R := by kernel_rfl
theorem A_quorum_list_holds {l : Int} {set_ : Int} {h : Heap} {R : Bool → Heap → Prop} (hs : S_quorum_list_holds l set_ h R) : C_quorum_list_holds l set_ h R :=
  use_ Try.func137 (by kernel_rfl) (E_quorum_list_holds l set_ h R) hs

/-- (quorum.joint).holds -/
def S_quorum_joint_holds (j : KL [.int .u64, .int .u64]) (set_ : Int) (h : Heap) (R : Bool → Heap → Prop) : Prop :=
  Alloc h (.cells #[.int .u64 j.1, .int .u64 j.2.1] 110) fun j1 h_ =>
  Ld (.int .u64) h_ j1 fun (a : Int) =>
  C_quorum_list_holds a set_ h_ fun (r : Bool) h_1 =>
  (bif r then
    Ld (.int .u64) h_1 (j1.add 1) fun (b : Int) =>
    C_quorum_list_holds b set_ h_1 fun (r1 : Bool) h_2 =>
    R r1 h_2
  else
    R false h_1
  )
theorem E_quorum_joint_holds (j : KL [.int .u64, .int .u64]) (set_ : Int) (h : Heap) (R : Bool → Heap → Prop) :
    VF Try.prog [] Try.f138 [.agg ⟨KL.vals [.int .u64, .int .u64] j⟩, .int .u64 set_] h [.one .bool] R = S_quorum_joint_holds j set_ h R := by kernel_rfl
theorem A_quorum_joint_holds {j : KL [.int .u64, .int .u64]} {set_ : Int} {h : Heap} {R : Bool → Heap → Prop} (hs : S_quorum_joint_holds j set_ h R) : C_quorum_joint_holds j set_ h R :=
  use_ Try.func138 (by kernel_rfl) (E_quorum_joint_holds j set_ h R) hs

/-- (quorum.grid).holds -/
def S_quorum_grid_holds (g : KL [.int .i64, .int .i64]) (set_ : Int) (h : Heap) (R : Bool → Heap → Prop) : Prop :=
  Alloc h (.cells #[.int .i64 g.1, .int .i64 g.2.1] 112) fun g1 h_ =>
  Ld (.int .i64) h_ (g1.add 1) fun (columns : Int) =>
  Nneg (IntKind.u64.wrap columns) (
  Let (IntKind.u64.wrap ((shiftV .shl .u64 1 (IntKind.u64.wrap columns)) - 1) : Int) fun row =>
  Ld (.int .i64) h_ g1 fun (rows : Int) =>
  Loop [.one .bool, .one (.int .i64)] (fun _ (full : Bool) (x16 : Int) h_1 go =>
    (bif decide (x16 < rows) then
      Ld (.int .i64) h_1 (g1.add 1) fun (columns1 : Int) =>
      Nneg (IntKind.u64.wrap (IntKind.i64.wrap (x16 * columns1))) (
      Let (bitV .and .u64 (shiftV .shr .u64 set_ (IntKind.u64.wrap (IntKind.i64.wrap (x16 * columns1)))) row : Int) fun part =>
      (bif part == 0 then
        R false h_1
      else
        (bif full then
          go true (IntKind.i64.wrap (x16 + 1)) h_1
        else
          Let (part == row : Bool) fun full1 =>
          go full1 (IntKind.i64.wrap (x16 + 1)) h_1
        )
      )
      )
    else
      R full h_1
    )
    ) (false, 0, ()) h_
  )
theorem E_quorum_grid_holds (g : KL [.int .i64, .int .i64]) (set_ : Int) (h : Heap) (R : Bool → Heap → Prop) :
    VF Try.prog [(122, [(6, .one .bool), (16, .one (.int .i64))])] Try.f139 [.agg ⟨KL.vals [.int .i64, .int .i64] g⟩, .int .u64 set_] h [.one .bool] R = S_quorum_grid_holds g set_ h R := by kernel_rfl
theorem A_quorum_grid_holds {g : KL [.int .i64, .int .i64]} {set_ : Int} {h : Heap} {R : Bool → Heap → Prop} (hs : S_quorum_grid_holds g set_ h R) : C_quorum_grid_holds g set_ h R :=
  use_ Try.func139 (by kernel_rfl) (E_quorum_grid_holds g set_ h R) hs

end Go.Proofs.Ytegbnmaglkpkjaa
