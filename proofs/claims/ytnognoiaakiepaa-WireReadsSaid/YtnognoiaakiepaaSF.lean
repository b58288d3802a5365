/- Printed by a program: what each function asks of the heap, that this is the reading of its code, and what follows for a call. -/
import Derived.Test.YtnognoiaakiepaaSC
import Derived.Test.YtnognoiaakiepaaProg
set_option maxRecDepth 1000000
namespace Go.Proofs.Ytnognoiaakiepaa
open Go

/-- crc.Bytes -/
def S_crc_Bytes (sum : Int) (h : Heap) (R : Sl → Heap → Prop) : Prop :=
  Loop [.one .sl, .one (.int .i64)] (fun _ (out : Sl) (x5 : Int) h_ go =>
    (bif decide (x5 < 4) then
      Nneg (IntKind.u64.wrap (IntKind.i64.wrap (8 * x5))) (
      Alloc h_ (.cells #[.int .u8 (IntKind.u8.wrap (shiftV .shr .u32 sum (IntKind.u64.wrap (IntKind.i64.wrap (8 * x5)))))] 5) fun b h_1 =>
      App Try.prog 22 22 out ⟨some b, 1, 1⟩ h_1 fun s h_2 =>
      go s (IntKind.i64.wrap (x5 + 1)) h_2
      )
    else
      R out h_
    )
    ) (⟨none, 0, 0⟩, 0, ()) h
theorem E_crc_Bytes (sum : Int) (h : Heap) (R : Sl → Heap → Prop) :
    VF Try.prog [(58, [(3, .one .sl), (5, .one (.int .i64))])] Try.f106 [.int .u32 sum] h [.one .sl] R = S_crc_Bytes sum h R := by kernel_rfl
theorem A_crc_Bytes {sum : Int} {h : Heap} {R : Sl → Heap → Prop} (hs : S_crc_Bytes sum h R) : C_crc_Bytes sum h R :=
  use_ Try.func106 (by kernel_rfl) (E_crc_Bytes sum h R) hs

/-- crc.Of -/
def S_crc_Of (b : Sl) (h : Heap) (R : Int → Heap → Prop) : Prop :=
  C_crc_New  h fun (r : Option Addr) h_ =>
  C_crc_Table_Sum r b h_ fun (r1 : Int) h_1 =>
  R r1 h_1
theorem E_crc_Of (b : Sl) (h : Heap) (R : Int → Heap → Prop) :
    VF Try.prog [] Try.f107 [.slice b.a b.n b.c] h [.one (.int .u32)] R = S_crc_Of b h R := by kernel_rfl
theorem A_crc_Of {b : Sl} {h : Heap} {R : Int → Heap → Prop} (hs : S_crc_Of b h R) : C_crc_Of b h R :=
  use_ Try.func107 (by kernel_rfl) (E_crc_Of b h R) hs

/-- kissinggateref02.Bytes -/
def S_ref02_Bytes (sum : Int) (h : Heap) (R : Sl → Heap → Prop) : Prop :=
  Nz 256 (
  Nz 256 (
  Nz 256 (
  Nz 65536 (
  Nz 256 (
  Nz 16777216 (
  Alloc h (.cells #[.int .u8 (IntKind.u8.wrap (divV .rem .u32 sum 256)), .int .u8 (IntKind.u8.wrap (divV .rem .u32 (divV .quo .u32 sum 256) 256)), .int .u8 (IntKind.u8.wrap (divV .rem .u32 (divV .quo .u32 sum 65536) 256)), .int .u8 (IntKind.u8.wrap (divV .quo .u32 sum 16777216))] 5) fun b h_ =>
  R ⟨some b, 4, 4⟩ h_
  )
  )
  )
  )
  )
  )
theorem E_ref02_Bytes (sum : Int) (h : Heap) (R : Sl → Heap → Prop) :
    VF Try.prog [] Try.f108 [.int .u32 sum] h [.one .sl] R = S_ref02_Bytes sum h R := by kernel_rfl
theorem A_ref02_Bytes {sum : Int} {h : Heap} {R : Sl → Heap → Prop} (hs : S_ref02_Bytes sum h R) : C_ref02_Bytes sum h R :=
  use_ Try.func108 (by kernel_rfl) (E_ref02_Bytes sum h R) hs

/-- kissinggateref02.Of -/
def S_ref02_Of (b : Sl) (h : Heap) (R : Int → Heap → Prop) : Prop :=
  Loop [.one (.int .u32), .one (.int .i64)] (fun _ (r : Int) (x10 : Int) h_ go =>
    (bif decide (x10 < (b.n : Int)) then
      Ix b x10 1 fun e =>
      Ld (.int .u8) h_ e fun (x : Int) =>
      Let (bitV .xor .u32 r (IntKind.u32.wrap x) : Int) fun r1 =>
      Loop [.one (.int .u32), .one (.int .i64)] (fun _ (r2 : Int) (i : Int) h_1 go1 =>
        (bif decide (i < 8) then
          Nz 2 (
          Let ((divV .rem .u32 r2 2) == 1 : Bool) fun odd =>
          Nz 2 (
          Let (divV .quo .u32 r2 2 : Int) fun r3 =>
          (bif odd then
            Let (bitV .xor .u32 r3 2197175160 : Int) fun r4 =>
            Let (IntKind.i64.wrap (i + 1) : Int) fun i1 =>
            go1 r4 i1 h_1
          else
            Let (IntKind.i64.wrap (i + 1) : Int) fun i2 =>
            go1 r3 i2 h_1
          )
          )
          )
        else
          go r2 (IntKind.i64.wrap (x10 + 1)) h_1
        )
        ) (r1, 0, ()) h_
    else
      R (IntKind.u32.wrap (4294967295 - r)) h_
    )
    ) (4294967295, 0, ()) h
theorem E_ref02_Of (b : Sl) (h : Heap) (R : Int → Heap → Prop) :
    VF Try.prog [(58, [(3, .one (.int .u32)), (10, .one (.int .i64))]), (29902, [(3, .one (.int .u32)), (6, .one (.int .i64))])] Try.f109 [.slice b.a b.n b.c] h [.one (.int .u32)] R = S_ref02_Of b h R := by kernel_rfl
theorem A_ref02_Of {b : Sl} {h : Heap} {R : Int → Heap → Prop} (hs : S_ref02_Of b h R) : C_ref02_Of b h R :=
  use_ Try.func109 (by kernel_rfl) (E_ref02_Of b h R) hs

/-- crc.Check -/
def S_crc_Check (b : Sl) (sum : Sl) (h : Heap) (R : Bool → Heap → Prop) : Prop :=
  C_crc_Of b h fun (r : Int) h_ =>
  C_crc_Bytes r h_ fun (r1 : Sl) h_1 =>
  C_bytes_Equal r1 sum h_1 fun (r2 : Bool) h_2 =>
  R r2 h_2
theorem E_crc_Check (b : Sl) (sum : Sl) (h : Heap) (R : Bool → Heap → Prop) :
    VF Try.prog [] Try.f119 [.slice b.a b.n b.c, .slice sum.a sum.n sum.c] h [.one .bool] R = S_crc_Check b sum h R := by kernel_rfl
theorem A_crc_Check {b : Sl} {sum : Sl} {h : Heap} {R : Bool → Heap → Prop} (hs : S_crc_Check b sum h R) : C_crc_Check b sum h R :=
  use_ Try.func119 (by kernel_rfl) (E_crc_Check b sum h R) hs

/-- crc.New -/
def S_crc_New  (h : Heap) (R : Option Addr → Heap → Prop) : Prop :=
  Alloc h (.cells (zc Try.prog 196) 196) fun p h_ =>
  R (some p) h_
theorem E_crc_New  (h : Heap) (R : Option Addr → Heap → Prop) :
    VF Try.prog [] Try.f120 [] h [.one .ptr] R = S_crc_New  h R := by kernel_rfl
theorem A_crc_New  {h : Heap} {R : Option Addr → Heap → Prop} (hs : S_crc_New  h R) : C_crc_New  h R :=
  use_ Try.func120 (by kernel_rfl) (E_crc_New  h R) hs

/-- (*crc.Table).Sum -/
def S_crc_Table_Sum (t : Option Addr) (b : Sl) (h : Heap) (R : Int → Heap → Prop) : Prop :=
  C_crc_Table_Add t 0 b h fun (r : Int) h_ =>
  R r h_
theorem E_crc_Table_Sum (t : Option Addr) (b : Sl) (h : Heap) (R : Int → Heap → Prop) :
    VF Try.prog [] Try.f121 [.pointer t, .slice b.a b.n b.c] h [.one (.int .u32)] R = S_crc_Table_Sum t b h R := by kernel_rfl
theorem A_crc_Table_Sum {t : Option Addr} {b : Sl} {h : Heap} {R : Int → Heap → Prop} (hs : S_crc_Table_Sum t b h R) : C_crc_Table_Sum t b h R :=
  use_ Try.func121 (by kernel_rfl) (E_crc_Table_Sum t b h R) hs

/-- bytes.Equal -/
def S_bytes_Equal (a : Sl) (b : Sl) (h : Heap) (R : Bool → Heap → Prop) : Prop :=
  ToS Try.prog 22 9 a h fun str =>
  ToS Try.prog 22 9 b h fun str1 =>
  R (str.toList == str1.toList) h
theorem E_bytes_Equal (a : Sl) (b : Sl) (h : Heap) (R : Bool → Heap → Prop) :
    VF Try.prog [] Try.f122 [.slice a.a a.n a.c, .slice b.a b.n b.c] h [.one .bool] R = S_bytes_Equal a b h R := by kernel_rfl
theorem A_bytes_Equal {a : Sl} {b : Sl} {h : Heap} {R : Bool → Heap → Prop} (hs : S_bytes_Equal a b h R) : C_bytes_Equal a b h R :=
  use_ Try.func122 (by kernel_rfl) (E_bytes_Equal a b h R) hs

/-- (*crc.Table).Add -/
def S_crc_Table_Add (t : Option Addr) (sum : Int) (b : Sl) (h : Heap) (R : Int → Heap → Prop) : Prop :=
  (bif t.isNone then
    R 0 h
  else
    Nn t fun p =>
    C_sync_Once_Do (some p) (.func (.func 125) #[.pointer t] #[]) h fun h_ =>
    Let (bitV .xor .u32 4294967295 sum : Int) fun r =>
    Loop [.one (.int .u32), .one (.int .i64)] (fun _ (r1 : Int) (x22 : Int) h_1 go =>
      (bif decide (x22 < (b.n : Int)) then
        Ix b x22 1 fun e =>
        Ld (.int .u8) h_1 e fun (x : Int) =>
        Nneg 8 (
        Nn t fun p1 =>
        IxA (p1.add 4) 256 (bitV .xor .u8 (IntKind.u8.wrap r1) x) 1 fun e1 =>
        Ld (.int .u32) h_1 e1 fun (x1 : Int) =>
        Let (bitV .xor .u32 (shiftV .shr .u32 r1 8) x1 : Int) fun r2 =>
        go r2 (IntKind.i64.wrap (x22 + 1)) h_1
        )
      else
        R (bitV .xor .u32 4294967295 r1) h_1
      )
      ) (r, 0, ()) h_
  )
theorem E_crc_Table_Add (t : Option Addr) (sum : Int) (b : Sl) (h : Heap) (R : Int → Heap → Prop) :
    VF Try.prog [(250, [(7, .one (.int .u32)), (22, .one (.int .i64))])] Try.f123 [.pointer t, .int .u32 sum, .slice b.a b.n b.c] h [.one (.int .u32)] R = S_crc_Table_Add t sum b h R := by kernel_rfl
theorem A_crc_Table_Add {t : Option Addr} {sum : Int} {b : Sl} {h : Heap} {R : Int → Heap → Prop} (hs : S_crc_Table_Add t sum b h R) : C_crc_Table_Add t sum b h R :=
  use_ Try.func123 (by kernel_rfl) (E_crc_Table_Add t sum b h R) hs

/-- (*sync.Once).Do -/
def S_sync_Once_Do (o : Option Addr) (f : Value) (h : Heap) (R : Heap → Prop) : Prop :=
  Nn o fun p =>
  C_sync_atomic_Bool_Load (some p) h fun (r : Bool) h_ =>
  (bif !r then
    C_sync_Once_doSlow o f h_ fun h_1 =>
    R h_1
  else
    R h_
  )
theorem E_sync_Once_Do (o : Option Addr) (f : Value) (h : Heap) (R : Heap → Prop) :
    VF Try.prog [] Try.f124 [.pointer o, f] h [] R = S_sync_Once_Do o f h R := by kernel_rfl
theorem A_sync_Once_Do {o : Option Addr} {f : Value} {h : Heap} {R : Heap → Prop} (hs : S_sync_Once_Do o f h R) : C_sync_Once_Do o f h R :=
  use_ Try.func124 (by kernel_rfl) (E_sync_Once_Do o f h R) hs

/-- (*crc.Table).fill -/
def S_crc_Table_fill (t : Option Addr) (h : Heap) (R : Heap → Prop) : Prop :=
  Nn t fun p =>
  Ld (.int .i64) h (p.add 3) fun (made : Int) =>
  Nn t fun p1 =>
  St h (p1.add 3) (.int .i64 (IntKind.i64.wrap (made + 1))) fun h_ =>
  Loop [.one (.int .i64)] (fun _ (x12 : Int) h_1 go =>
    (bif decide (x12 < 256) then
      Let (IntKind.u32.wrap x12 : Int) fun r =>
      Loop [.one (.int .u32), .one (.int .i64)] (fun _ (r1 : Int) (x17 : Int) h_2 go1 =>
        (bif decide (x17 < 8) then
          Let (bitV .and .u32 r1 1 : Int) fun odd =>
          Nneg 1 (
          Let (shiftV .shr .u32 r1 1 : Int) fun r2 =>
          (bif odd == 1 then
            Let (bitV .xor .u32 r2 2197175160 : Int) fun r3 =>
            go1 r3 (IntKind.i64.wrap (x17 + 1)) h_2
          else
            go1 r2 (IntKind.i64.wrap (x17 + 1)) h_2
          )
          )
        else
          Nn t fun p2 =>
          IxA (p2.add 4) 256 x12 1 fun e =>
          St h_2 e (.int .u32 r1) fun h_3 =>
          go (IntKind.i64.wrap (x12 + 1)) h_3
        )
        ) (r, 0, ()) h_1
    else
      R h_1
    )
    ) (0, ()) h_
theorem E_crc_Table_fill (t : Option Addr) (h : Heap) (R : Heap → Prop) :
    VF Try.prog [(14, [(12, .one (.int .i64))]), (14746, [(3, .one (.int .u32)), (17, .one (.int .i64))])] Try.f125 [.pointer t] h [] R = S_crc_Table_fill t h R := by kernel_rfl
theorem A_crc_Table_fill {t : Option Addr} {h : Heap} {R : Heap → Prop} (hs : S_crc_Table_fill t h R) : C_crc_Table_fill t h R :=
  use_ Try.func125 (by kernel_rfl) (E_crc_Table_fill t h R) hs

/-- (*sync.atomic.Bool).Load -/
def S_sync_atomic_Bool_Load (x : Option Addr) (h : Heap) (R : Bool → Heap → Prop) : Prop :=
  Nn x fun p =>
  ExtR Try.prog 128 #[.pointer (some p)] h [.one (.int .u32)] fun (r : Int) h_ =>
  R (r != 0) h_
theorem E_sync_atomic_Bool_Load (x : Option Addr) (h : Heap) (R : Bool → Heap → Prop) :
    VF Try.prog [] Try.f126 [.pointer x] h [.one .bool] R = S_sync_atomic_Bool_Load x h R := by kernel_rfl
theorem A_sync_atomic_Bool_Load {x : Option Addr} {h : Heap} {R : Bool → Heap → Prop} (hs : S_sync_atomic_Bool_Load x h R) : C_sync_atomic_Bool_Load x h R :=
  use_ Try.func126 (by kernel_rfl) (E_sync_atomic_Bool_Load x h R) hs

end Go.Proofs.Ytnognoiaakiepaa
