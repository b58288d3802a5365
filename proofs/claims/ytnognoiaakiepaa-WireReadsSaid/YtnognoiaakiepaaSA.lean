/- Printed by a program: what each function asks of the heap, that this is the reading of its code, and what follows for a call. -/
import Derived.Test.YtnognoiaakiepaaSC
import Derived.Test.YtnognoiaakiepaaProg
set_option maxRecDepth 1000000
namespace Go.Proofs.Ytnognoiaakiepaa
open Go

/-- word.Text -/
def S_word_Text (b : Sl) (s : ByteArray) (h : Heap) (R : Sl → Heap → Prop) : Prop :=
  Let (if 65535 < (s.size : Int) then 65535 else (s.size : Int) : Int) fun n =>
  Nneg 8 (
  Alloc h (.cells #[.int .u8 (IntKind.u8.wrap (shiftV .shr .i64 n 8)), .int .u8 (IntKind.u8.wrap n)] 5) fun b1 h_ =>
  App Try.prog 22 22 b ⟨some b1, 2, 2⟩ h_ fun s1 h_1 =>
  CutS Try.prog 9 s none (some (.int .i64 n)) fun s2 =>
  OpT Try.prog (Builtin.append_ #[22, 9] 22 #[.slice s1.a s1.n s1.c, .string s2]) h_1 [.one .sl] fun s3 h_2 =>
  R s3 h_2
  )
theorem E_word_Text (b : Sl) (s : ByteArray) (h : Heap) (R : Sl → Heap → Prop) :
    VF Try.prog [] Try.f78 [.slice b.a b.n b.c, .string s] h [.one .sl] R = S_word_Text b s h R := by kernel_rfl
theorem A_word_Text {b : Sl} {s : ByteArray} {h : Heap} {R : Sl → Heap → Prop} (hs : S_word_Text b s h R) : C_word_Text b s h R :=
  use_ Try.func78 (by kernel_rfl) (E_word_Text b s h R) hs

/-- word.Bool -/
def S_word_Bool (b : Sl) (yes : Bool) (h : Heap) (R : Sl → Heap → Prop) : Prop :=
  (bif yes then
    Alloc h (.cells #[.int .u8 1] 5) fun b1 h_ =>
    App Try.prog 22 22 b ⟨some b1, 1, 1⟩ h_ fun s h_1 =>
    R s h_1
  else
    Alloc h (.cells #[.int .u8 0] 5) fun b2 h_2 =>
    App Try.prog 22 22 b ⟨some b2, 1, 1⟩ h_2 fun s1 h_3 =>
    R s1 h_3
  )
theorem E_word_Bool (b : Sl) (yes : Bool) (h : Heap) (R : Sl → Heap → Prop) :
    VF Try.prog [] Try.f79 [.slice b.a b.n b.c, .bool yes] h [.one .sl] R = S_word_Bool b yes h R := by kernel_rfl
theorem A_word_Bool {b : Sl} {yes : Bool} {h : Heap} {R : Sl → Heap → Prop} (hs : S_word_Bool b yes h R) : C_word_Bool b yes h R :=
  use_ Try.func79 (by kernel_rfl) (E_word_Bool b yes h R) hs

/-- word.Int -/
def S_word_Int (b : Sl) (n : Int) (h : Heap) (R : Sl → Heap → Prop) : Prop :=
  Loop [.one .sl, .one (.int .i64)] (fun _ (b1 : Sl) (i : Int) h_ go =>
    (bif decide (i ≥ 0) then
      Nneg (IntKind.u64.wrap (IntKind.i64.wrap (8 * i))) (
      Alloc h_ (.cells #[.int .u8 (IntKind.u8.wrap (shiftV .shr .u64 (IntKind.u64.wrap n) (IntKind.u64.wrap (IntKind.i64.wrap (8 * i)))))] 5) fun b2 h_1 =>
      App Try.prog 22 22 b1 ⟨some b2, 1, 1⟩ h_1 fun s h_2 =>
      Let (IntKind.i64.wrap (i - 1) : Int) fun i1 =>
      go s i1 h_2
      )
    else
      R b1 h_
    )
    ) (b, 7, ()) h
theorem E_word_Int (b : Sl) (n : Int) (h : Heap) (R : Sl → Heap → Prop) :
    VF Try.prog [(26, [(0, .one .sl), (5, .one (.int .i64))])] Try.f80 [.slice b.a b.n b.c, .int .i64 n] h [.one .sl] R = S_word_Int b n h R := by kernel_rfl
theorem A_word_Int {b : Sl} {n : Int} {h : Heap} {R : Sl → Heap → Prop} (hs : S_word_Int b n h R) : C_word_Int b n h R :=
  use_ Try.func80 (by kernel_rfl) (E_word_Int b n h R) hs

/-- kissinggateref01.Int -/
def S_ref01_Int (n : Int) (h : Heap) (R : ByteArray → Heap → Prop) : Prop :=
  Let (IntKind.u64.wrap n : Int) fun u =>
  Loop [.one .str, .one (.int .u64), .one (.int .i64)] (fun _ (out : ByteArray) (u1 : Int) (i : Int) h_ go =>
    (bif decide (i < 8) then
      Nz 256 (
      Alloc h_ (.cells #[.int .u8 (IntKind.u8.wrap (divV .rem .u64 u1 256))] 5) fun b h_1 =>
      ToS Try.prog 22 9 ⟨some b, 1, 1⟩ h_1 fun str =>
      Cat str out fun str1 =>
      Nz 256 (
      Let (divV .quo .u64 u1 256 : Int) fun u2 =>
      Let (IntKind.i64.wrap (i + 1) : Int) fun i1 =>
      go str1 u2 i1 h_1
      )
      )
    else
      R out h_
    )
    ) ((⟨#[]⟩ : ByteArray), u, 0, ()) h
theorem E_ref01_Int (n : Int) (h : Heap) (R : ByteArray → Heap → Prop) :
    VF Try.prog [(122, [(3, .one .str), (4, .one (.int .u64)), (5, .one (.int .i64))])] Try.f81 [.int .i64 n] h [.one .str] R = S_ref01_Int n h R := by kernel_rfl
theorem A_ref01_Int {n : Int} {h : Heap} {R : ByteArray → Heap → Prop} (hs : S_ref01_Int n h R) : C_ref01_Int n h R :=
  use_ Try.func81 (by kernel_rfl) (E_ref01_Int n h R) hs

/-- kissinggateref01.Text -/
def S_ref01_Text (s : ByteArray) (h : Heap) (R : ByteArray → Heap → Prop) : Prop :=
  Join [.one .str] (fun _ (s1 : ByteArray) h_ =>
    Nz 256 (
    Nz 256 (
    Alloc h_ (.cells #[.int .u8 (IntKind.u8.wrap (divV .quo .i64 (s1.size : Int) 256)), .int .u8 (IntKind.u8.wrap (divV .rem .i64 (s1.size : Int) 256))] 5) fun b h_1 =>
    ToS Try.prog 22 9 ⟨some b, 2, 2⟩ h_1 fun str =>
    Cat str s1 fun str1 =>
    R str1 h_1
    )
    )
    ) fun J =>
  (bif decide ((s.size : Int) > 65535) then
    CutS Try.prog 9 s none (some (.int .i64 65535)) fun s2 =>
    J s2 h
  else
    J s h
  )
theorem E_ref01_Text (s : ByteArray) (h : Heap) (R : ByteArray → Heap → Prop) :
    VF Try.prog [(13, [(0, .one .str)])] Try.f82 [.string s] h [.one .str] R = S_ref01_Text s h R := by kernel_rfl
theorem A_ref01_Text {s : ByteArray} {h : Heap} {R : ByteArray → Heap → Prop} (hs : S_ref01_Text s h R) : C_ref01_Text s h R :=
  use_ Try.func82 (by kernel_rfl) (E_ref01_Text s h R) hs

/-- kissinggateref01.Bool -/
def S_ref01_Bool (yes : Bool) (h : Heap) (R : ByteArray → Heap → Prop) : Prop :=
  (bif yes then
    Alloc h (.cells #[.int .u8 1] 5) fun b h_ =>
    ToS Try.prog 22 9 ⟨some b, 1, 1⟩ h_ fun str =>
    R str h_
  else
    Alloc h (.cells #[.int .u8 0] 5) fun b1 h_1 =>
    ToS Try.prog 22 9 ⟨some b1, 1, 1⟩ h_1 fun str1 =>
    R str1 h_1
  )
theorem E_ref01_Bool (yes : Bool) (h : Heap) (R : ByteArray → Heap → Prop) :
    VF Try.prog [] Try.f83 [.bool yes] h [.one .str] R = S_ref01_Bool yes h R := by kernel_rfl
theorem A_ref01_Bool {yes : Bool} {h : Heap} {R : ByteArray → Heap → Prop} (hs : S_ref01_Bool yes h R) : C_ref01_Bool yes h R :=
  use_ Try.func83 (by kernel_rfl) (E_ref01_Bool yes h R) hs

/-- word.Read -/
def S_word_Read (b : Sl) (h : Heap) (R : Option Addr → Heap → Prop) : Prop :=
  Alloc h (.cells #[.slice b.a b.n b.c, .bool false] 173) fun p h_ =>
  R (some p) h_
theorem E_word_Read (b : Sl) (h : Heap) (R : Option Addr → Heap → Prop) :
    VF Try.prog [] Try.f84 [.slice b.a b.n b.c] h [.one .ptr] R = S_word_Read b h R := by kernel_rfl
theorem A_word_Read {b : Sl} {h : Heap} {R : Option Addr → Heap → Prop} (hs : S_word_Read b h R) : C_word_Read b h R :=
  use_ Try.func84 (by kernel_rfl) (E_word_Read b h R) hs

/-- (*word.Reader).Text -/
def S_word_Reader_Text (r : Option Addr) (most : Int) (h : Heap) (R : ByteArray → Heap → Prop) : Prop :=
  C_word_Reader_part r 2 h fun (r1 : Sl) h_ =>
  (bif r1.a.isNone then
    R (⟨#[]⟩ : ByteArray) h_
  else
    Ix r1 0 1 fun e =>
    Ld (.int .u8) h_ e fun (x : Int) =>
    Nneg 8 (
    Ix r1 1 1 fun e1 =>
    Ld (.int .u8) h_ e1 fun (x1 : Int) =>
    Let (bitV .or .i64 (shiftV .shl .i64 (IntKind.i64.wrap x) 8) (IntKind.i64.wrap x1) : Int) fun n =>
    (bif decide (n > most) then
      C_word_Reader_fail r h_ fun h_1 =>
      R (⟨#[]⟩ : ByteArray) h_1
    else
      C_word_Reader_part r n h_ fun (r2 : Sl) h_2 =>
      ToS Try.prog 22 9 r2 h_2 fun str =>
      R str h_2
    )
    )
  )
theorem E_word_Reader_Text (r : Option Addr) (most : Int) (h : Heap) (R : ByteArray → Heap → Prop) :
    VF Try.prog [] Try.f86 [.pointer r, .int .i64 most] h [.one .str] R = S_word_Reader_Text r most h R := by kernel_rfl
theorem A_word_Reader_Text {r : Option Addr} {most : Int} {h : Heap} {R : ByteArray → Heap → Prop} (hs : S_word_Reader_Text r most h R) : C_word_Reader_Text r most h R :=
  use_ Try.func86 (by kernel_rfl) (E_word_Reader_Text r most h R) hs

/-- (*word.Reader).Bool -/
def S_word_Reader_Bool (r : Option Addr) (h : Heap) (R : Bool → Heap → Prop) : Prop :=
  C_word_Reader_part r 1 h fun (r1 : Sl) h_ =>
  (bif r1.a.isNone then
    C_word_Reader_fail r h_ fun h_1 =>
    R false h_1
  else
    Ix r1 0 1 fun e =>
    Ld (.int .u8) h_ e fun (x : Int) =>
    (bif decide (x > 1) then
      C_word_Reader_fail r h_ fun h_2 =>
      R false h_2
    else
      Ix r1 0 1 fun e1 =>
      Ld (.int .u8) h_ e1 fun (x1 : Int) =>
      R (x1 == 1) h_
    )
  )
theorem E_word_Reader_Bool (r : Option Addr) (h : Heap) (R : Bool → Heap → Prop) :
    VF Try.prog [] Try.f88 [.pointer r] h [.one .bool] R = S_word_Reader_Bool r h R := by kernel_rfl
theorem A_word_Reader_Bool {r : Option Addr} {h : Heap} {R : Bool → Heap → Prop} (hs : S_word_Reader_Bool r h R) : C_word_Reader_Bool r h R :=
  use_ Try.func88 (by kernel_rfl) (E_word_Reader_Bool r h R) hs

/-- (*kissinggateref01.Reader).Int -/
def S_ref01_Reader_Int (r : Option Addr) (least : Int) (most : Int) (h : Heap) (R : Int → Heap → Prop) : Prop :=
  C_ref01_Reader_part r 8 h fun (r1 : ByteArray) h_ =>
  Nn r fun p =>
  Ld .bool h_ (p.add 1) fun (Bad : Bool) =>
  (bif Bad then
    R 0 h_
  else
    Loop [.one (.int .u64), .one (.int .i64)] (fun _ (u : Int) (i : Int) h_1 go =>
      (bif decide (i < 8) then
        IxS r1 i fun c =>
        Let (IntKind.u64.wrap ((IntKind.u64.wrap (u * 256)) + (IntKind.u64.wrap c)) : Int) fun u1 =>
        Let (IntKind.i64.wrap (i + 1) : Int) fun i1 =>
        go u1 i1 h_1
      else
        (bif decide ((IntKind.i64.wrap u) < least) then
          Nn r fun p1 =>
          St h_1 (p1.add 1) (.bool true) fun h_2 =>
          Nn r fun p2 =>
          St h_2 p2 (.string (⟨#[]⟩ : ByteArray)) fun h_3 =>
          R 0 h_3
        else
          (bif decide ((IntKind.i64.wrap u) > most) then
            Nn r fun p3 =>
            St h_1 (p3.add 1) (.bool true) fun h_4 =>
            Nn r fun p4 =>
            St h_4 p4 (.string (⟨#[]⟩ : ByteArray)) fun h_5 =>
            R 0 h_5
          else
            R (IntKind.i64.wrap u) h_1
          )
        )
      )
      ) (0, 0, ()) h_
  )
theorem E_ref01_Reader_Int (r : Option Addr) (least : Int) (most : Int) (h : Heap) (R : Int → Heap → Prop) :
    VF Try.prog [(250, [(8, .one (.int .u64)), (9, .one (.int .i64))])] Try.f92 [.pointer r, .int .i64 least, .int .i64 most] h [.one (.int .i64)] R = S_ref01_Reader_Int r least most h R := by kernel_rfl
theorem A_ref01_Reader_Int {r : Option Addr} {least : Int} {most : Int} {h : Heap} {R : Int → Heap → Prop} (hs : S_ref01_Reader_Int r least most h R) : C_ref01_Reader_Int r least most h R :=
  use_ Try.func92 (by kernel_rfl) (E_ref01_Reader_Int r least most h R) hs

/-- (*kissinggateref01.Reader).Text -/
def S_ref01_Reader_Text (r : Option Addr) (most : Int) (h : Heap) (R : ByteArray → Heap → Prop) : Prop :=
  C_ref01_Reader_part r 2 h fun (r1 : ByteArray) h_ =>
  Nn r fun p =>
  Ld .bool h_ (p.add 1) fun (Bad : Bool) =>
  (bif Bad then
    R (⟨#[]⟩ : ByteArray) h_
  else
    IxS r1 0 fun c =>
    IxS r1 1 fun c1 =>
    Let (IntKind.i64.wrap ((IntKind.i64.wrap ((IntKind.i64.wrap c) * 256)) + (IntKind.i64.wrap c1)) : Int) fun n =>
    (bif decide (n > most) then
      Nn r fun p1 =>
      St h_ (p1.add 1) (.bool true) fun h_1 =>
      Nn r fun p2 =>
      St h_1 p2 (.string (⟨#[]⟩ : ByteArray)) fun h_2 =>
      R (⟨#[]⟩ : ByteArray) h_2
    else
      C_ref01_Reader_part r n h_ fun (r2 : ByteArray) h_3 =>
      R r2 h_3
    )
  )
theorem E_ref01_Reader_Text (r : Option Addr) (most : Int) (h : Heap) (R : ByteArray → Heap → Prop) :
    VF Try.prog [] Try.f93 [.pointer r, .int .i64 most] h [.one .str] R = S_ref01_Reader_Text r most h R := by kernel_rfl
theorem A_ref01_Reader_Text {r : Option Addr} {most : Int} {h : Heap} {R : ByteArray → Heap → Prop} (hs : S_ref01_Reader_Text r most h R) : C_ref01_Reader_Text r most h R :=
  use_ Try.func93 (by kernel_rfl) (E_ref01_Reader_Text r most h R) hs

/-- (*kissinggateref01.Reader).Bool -/
def S_ref01_Reader_Bool (r : Option Addr) (h : Heap) (R : Bool → Heap → Prop) : Prop :=
  C_ref01_Reader_part r 1 h fun (r1 : ByteArray) h_ =>
  Nn r fun p =>
  Ld .bool h_ (p.add 1) fun (Bad : Bool) =>
  (bif Bad then
    R false h_
  else
    IxS r1 0 fun c =>
    (bif decide (c > 1) then
      Nn r fun p1 =>
      St h_ (p1.add 1) (.bool true) fun h_1 =>
      Nn r fun p2 =>
      St h_1 p2 (.string (⟨#[]⟩ : ByteArray)) fun h_2 =>
      R false h_2
    else
      IxS r1 0 fun c1 =>
      R (c1 == 1) h_
    )
  )
theorem E_ref01_Reader_Bool (r : Option Addr) (h : Heap) (R : Bool → Heap → Prop) :
    VF Try.prog [] Try.f94 [.pointer r] h [.one .bool] R = S_ref01_Reader_Bool r h R := by kernel_rfl
theorem A_ref01_Reader_Bool {r : Option Addr} {h : Heap} {R : Bool → Heap → Prop} (hs : S_ref01_Reader_Bool r h R) : C_ref01_Reader_Bool r h R :=
  use_ Try.func94 (by kernel_rfl) (E_ref01_Reader_Bool r h R) hs

/-- (*word.Reader).part -/
def S_word_Reader_part (r : Option Addr) (n : Int) (h : Heap) (R : Sl → Heap → Prop) : Prop :=
  C_word_Reader_Fail r h fun (r1 : Bool) h_ =>
  (bif r1 then
    C_word_Reader_fail r h_ fun h_1 =>
    R ⟨none, 0, 0⟩ h_1
  else
    Nn r fun p =>
    Ld .sl h_ p fun (b : Sl) =>
    (bif decide ((b.n : Int) < n) then
      C_word_Reader_fail r h_ fun h_2 =>
      R ⟨none, 0, 0⟩ h_2
    else
      Nn r fun p1 =>
      Ld .sl h_ p1 fun (b1 : Sl) =>
      Cut Try.prog 22 b1 none (some (.int .i64 n)) none fun s =>
      Nn r fun p2 =>
      Ld .sl h_ p2 fun (b2 : Sl) =>
      Cut Try.prog 22 b2 (some (.int .i64 n)) none none fun s1 =>
      Nn r fun p3 =>
      St h_ p3 (.slice s1.a s1.n s1.c) fun h_3 =>
      R s h_3
    )
  )
theorem E_word_Reader_part (r : Option Addr) (n : Int) (h : Heap) (R : Sl → Heap → Prop) :
    VF Try.prog [] Try.f110 [.pointer r, .int .i64 n] h [.one .sl] R = S_word_Reader_part r n h R := by kernel_rfl
theorem A_word_Reader_part {r : Option Addr} {n : Int} {h : Heap} {R : Sl → Heap → Prop} (hs : S_word_Reader_part r n h R) : C_word_Reader_part r n h R :=
  use_ Try.func110 (by kernel_rfl) (E_word_Reader_part r n h R) hs

/-- (*word.Reader).fail -/
def S_word_Reader_fail (r : Option Addr) (h : Heap) (R : Heap → Prop) : Prop :=
  (bif !r.isNone then
    Nn r fun p =>
    St h (p.add 1) (.bool true) fun h_ =>
    Nn r fun p1 =>
    St h_ p1 (.slice none 0 0) fun h_1 =>
    R h_1
  else
    R h
  )
theorem E_word_Reader_fail (r : Option Addr) (h : Heap) (R : Heap → Prop) :
    VF Try.prog [] Try.f111 [.pointer r] h [] R = S_word_Reader_fail r h R := by kernel_rfl
theorem A_word_Reader_fail {r : Option Addr} {h : Heap} {R : Heap → Prop} (hs : S_word_Reader_fail r h R) : C_word_Reader_fail r h R :=
  use_ Try.func111 (by kernel_rfl) (E_word_Reader_fail r h R) hs

/-- (*word.Reader).Int -/
def S_word_Reader_Int (r : Option Addr) (least : Int) (most : Int) (h : Heap) (R : Int → Heap → Prop) : Prop :=
  C_word_Reader_part r 8 h fun (r1 : Sl) h_ =>
  Loop [.one (.int .u64), .one (.int .i64)] (fun _ (u : Int) (x16 : Int) h_1 go =>
    (bif decide (x16 < (r1.n : Int)) then
      Ix r1 x16 1 fun e =>
      Ld (.int .u8) h_1 e fun (x : Int) =>
      Nneg 8 (
      Let (bitV .or .u64 (shiftV .shl .u64 u 8) (IntKind.u64.wrap x) : Int) fun u1 =>
      go u1 (IntKind.i64.wrap (x16 + 1)) h_1
      )
    else
      Let (IntKind.i64.wrap u : Int) fun n =>
      (bif !r1.a.isNone then
        (bif decide (n ≥ least) then
          (bif decide (n ≤ most) then
            R n h_1
          else
            C_word_Reader_fail r h_1 fun h_2 =>
            R 0 h_2
          )
        else
          C_word_Reader_fail r h_1 fun h_3 =>
          R 0 h_3
        )
      else
        C_word_Reader_fail r h_1 fun h_4 =>
        R 0 h_4
      )
    )
    ) (0, 0, ()) h_
theorem E_word_Reader_Int (r : Option Addr) (least : Int) (most : Int) (h : Heap) (R : Int → Heap → Prop) :
    VF Try.prog [(122, [(7, .one (.int .u64)), (16, .one (.int .i64))])] Try.f112 [.pointer r, .int .i64 least, .int .i64 most] h [.one (.int .i64)] R = S_word_Reader_Int r least most h R := by kernel_rfl
theorem A_word_Reader_Int {r : Option Addr} {least : Int} {most : Int} {h : Heap} {R : Int → Heap → Prop} (hs : S_word_Reader_Int r least most h R) : C_word_Reader_Int r least most h R :=
  use_ Try.func112 (by kernel_rfl) (E_word_Reader_Int r least most h R) hs

/-- (*word.Reader).Done -/
def S_word_Reader_Done (r : Option Addr) (h : Heap) (R : Bool → Heap → Prop) : Prop :=
  C_word_Reader_Fail r h fun (r1 : Bool) h_ =>
  (bif !r1 then
    Nn r fun p =>
    Ld .sl h_ p fun (b : Sl) =>
    R ((b.n : Int) == 0) h_
  else
    R false h_
  )
theorem E_word_Reader_Done (r : Option Addr) (h : Heap) (R : Bool → Heap → Prop) :
    VF Try.prog [] Try.f113 [.pointer r] h [.one .bool] R = S_word_Reader_Done r h R := by kernel_rfl
theorem A_word_Reader_Done {r : Option Addr} {h : Heap} {R : Bool → Heap → Prop} (hs : S_word_Reader_Done r h R) : C_word_Reader_Done r h R :=
  use_ Try.func113 (by kernel_rfl) (E_word_Reader_Done r h R) hs

/-- (*kissinggateref01.Reader).part -/
def S_ref01_Reader_part (r : Option Addr) (n : Int) (h : Heap) (R : ByteArray → Heap → Prop) : Prop :=
  Nn r fun p =>
  Ld .bool h (p.add 1) fun (Bad : Bool) =>
  (bif Bad then
    Nn r fun p1 =>
    St h (p1.add 1) (.bool true) fun h_ =>
    Nn r fun p2 =>
    St h_ p2 (.string (⟨#[]⟩ : ByteArray)) fun h_1 =>
    R (⟨#[]⟩ : ByteArray) h_1
  else
    Nn r fun p3 =>
    Ld .str h p3 fun (S : ByteArray) =>
    (bif decide (n > (S.size : Int)) then
      Nn r fun p4 =>
      St h (p4.add 1) (.bool true) fun h_2 =>
      Nn r fun p5 =>
      St h_2 p5 (.string (⟨#[]⟩ : ByteArray)) fun h_3 =>
      R (⟨#[]⟩ : ByteArray) h_3
    else
      Nn r fun p6 =>
      Ld .str h p6 fun (S1 : ByteArray) =>
      CutS Try.prog 9 S1 none (some (.int .i64 n)) fun s =>
      Nn r fun p7 =>
      Ld .str h p7 fun (S2 : ByteArray) =>
      CutS Try.prog 9 S2 (some (.int .i64 n)) none fun s1 =>
      Nn r fun p8 =>
      St h p8 (.string s1) fun h_4 =>
      R s h_4
    )
  )
theorem E_ref01_Reader_part (r : Option Addr) (n : Int) (h : Heap) (R : ByteArray → Heap → Prop) :
    VF Try.prog [] Try.f114 [.pointer r, .int .i64 n] h [.one .str] R = S_ref01_Reader_part r n h R := by kernel_rfl
theorem A_ref01_Reader_part {r : Option Addr} {n : Int} {h : Heap} {R : ByteArray → Heap → Prop} (hs : S_ref01_Reader_part r n h R) : C_ref01_Reader_part r n h R :=
  use_ Try.func114 (by kernel_rfl) (E_ref01_Reader_part r n h R) hs

/-- (*word.Reader).Fail -/
def S_word_Reader_Fail (r : Option Addr) (h : Heap) (R : Bool → Heap → Prop) : Prop :=
  (bif r.isNone then
    R true h
  else
    Nn r fun p =>
    Ld .bool h (p.add 1) fun (bad : Bool) =>
    R bad h
  )
theorem E_word_Reader_Fail (r : Option Addr) (h : Heap) (R : Bool → Heap → Prop) :
    VF Try.prog [] Try.f115 [.pointer r] h [.one .bool] R = S_word_Reader_Fail r h R := by kernel_rfl
theorem A_word_Reader_Fail {r : Option Addr} {h : Heap} {R : Bool → Heap → Prop} (hs : S_word_Reader_Fail r h R) : C_word_Reader_Fail r h R :=
  use_ Try.func115 (by kernel_rfl) (E_word_Reader_Fail r h R) hs

end Go.Proofs.Ytnognoiaakiepaa
