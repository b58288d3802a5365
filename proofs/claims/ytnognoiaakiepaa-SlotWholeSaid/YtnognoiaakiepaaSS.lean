/- Printed by a program: what each function asks of the heap, that this is the reading of its code, and what follows for a call. -/
import Derived.Test.YtnognoiaakiepaaSC
import Derived.Test.YtnognoiaakiepaaProg
set_option maxRecDepth 1000000
namespace Go.Proofs.Ytnognoiaakiepaa
open Go

/-- slot.New -/
def S_slot_New  (h : Heap) (R : Option Addr → Heap → Prop) : Prop :=
  C_disk_New  h fun (r : Option Addr) h_ =>
  C_disk_New  h_ fun (r1 : Option Addr) h_1 =>
  Alloc h_1 (.cells #[.pointer r, .pointer r1] 159) fun p h_2 =>
  R (some p) h_2
theorem E_slot_New  (h : Heap) (R : Option Addr → Heap → Prop) :
    VF Try.prog [] Try.f51 [] h [.one .ptr] R = S_slot_New  h R := by kernel_rfl
theorem A_slot_New  {h : Heap} {R : Option Addr → Heap → Prop} (hs : S_slot_New  h R) : C_slot_New  h R :=
  use_ Try.func51 (by kernel_rfl) (E_slot_New  h R) hs

/-- (*slot.Pair).Install -/
def S_slot_Pair_Install (p : Option Addr) (content : Sl) (h : Heap) (R : Int → Heap → Prop) : Prop :=
  C_slot_Pair_goal p content h fun (r : Option Addr) (r1 : Sl) (r2 : Int) h_ =>
  (bif r2 == 0 then
    C_slot_does r r1 3 h_ fun h_1 =>
    R r2 h_1
  else
    R r2 h_
  )
theorem E_slot_Pair_Install (p : Option Addr) (content : Sl) (h : Heap) (R : Int → Heap → Prop) :
    VF Try.prog [] Try.f52 [.pointer p, .slice content.a content.n content.c] h [.one (.int .i64)] R = S_slot_Pair_Install p content h R := by kernel_rfl
theorem A_slot_Pair_Install {p : Option Addr} {content : Sl} {h : Heap} {R : Int → Heap → Prop} (hs : S_slot_Pair_Install p content h R) : C_slot_Pair_Install p content h R :=
  use_ Try.func52 (by kernel_rfl) (E_slot_Pair_Install p content h R) hs

/-- (*slot.Pair).Torn -/
def S_slot_Pair_Torn (p : Option Addr) (content : Sl) (most : Int) (keep : Int) (at_ : Int) (by_ : Int) (h : Heap) (R : Int → Heap → Prop) : Prop :=
  C_slot_Pair_goal p content h fun (r : Option Addr) (r1 : Sl) (r2 : Int) h_ =>
  (bif r2 == 0 then
    C_slot_does r r1 most h_ fun h_1 =>
    C_slot_fall r keep at_ by_ h_1 fun h_2 =>
    R r2 h_2
  else
    R r2 h_
  )
theorem E_slot_Pair_Torn (p : Option Addr) (content : Sl) (most : Int) (keep : Int) (at_ : Int) (by_ : Int) (h : Heap) (R : Int → Heap → Prop) :
    VF Try.prog [] Try.f53 [.pointer p, .slice content.a content.n content.c, .int .i64 most, .int .i64 keep, .int .i64 at_, .int .u8 by_] h [.one (.int .i64)] R = S_slot_Pair_Torn p content most keep at_ by_ h R := by kernel_rfl
theorem A_slot_Pair_Torn {p : Option Addr} {content : Sl} {most : Int} {keep : Int} {at_ : Int} {by_ : Int} {h : Heap} {R : Int → Heap → Prop} (hs : S_slot_Pair_Torn p content most keep at_ by_ h R) : C_slot_Pair_Torn p content most keep at_ by_ h R :=
  use_ Try.func53 (by kernel_rfl) (E_slot_Pair_Torn p content most keep at_ by_ h R) hs

/-- (*slot.Pair).Spoil -/
def S_slot_Pair_Spoil (p : Option Addr) (slot : Int) (at_ : Int) (by_ : Int) (h : Heap) (R : Int → Heap → Prop) : Prop :=
  Join [] (fun _ h_ =>
    Nn p fun p1 =>
    IxA p1 2 slot 1 fun e =>
    Ld .ptr h_ e fun (x : Option Addr) =>
    C_disk_Disk_Spoil x at_ by_ h_ fun (r : Int) h_1 =>
    R r h_1
    ) fun J =>
  (bif p.isNone then
    R 1 h
  else
    (bif decide (slot < 0) then
      R 6 h
    else
      (bif decide (slot ≥ 2) then
        R 6 h
      else
        J  h
      )
    )
  )
theorem E_slot_Pair_Spoil (p : Option Addr) (slot : Int) (at_ : Int) (by_ : Int) (h : Heap) (R : Int → Heap → Prop) :
    VF Try.prog [(6, [])] Try.f54 [.pointer p, .int .i64 slot, .int .i64 at_, .int .u8 by_] h [.one (.int .i64)] R = S_slot_Pair_Spoil p slot at_ by_ h R := by kernel_rfl
theorem A_slot_Pair_Spoil {p : Option Addr} {slot : Int} {at_ : Int} {by_ : Int} {h : Heap} {R : Int → Heap → Prop} (hs : S_slot_Pair_Spoil p slot at_ by_ h R) : C_slot_Pair_Spoil p slot at_ by_ h R :=
  use_ Try.func54 (by kernel_rfl) (E_slot_Pair_Spoil p slot at_ by_ h R) hs

/-- kissinggateref33.Newest -/
def S_ref33_Newest (a : Sl) (b : Sl) (h : Heap) (R : ByteArray → Int → Heap → Prop) : Prop :=
  C_ref33_Whole a h fun (r : ByteArray) (r1 : Int) h_ =>
  C_ref33_Whole b h_ fun (r2 : ByteArray) (r3 : Int) h_1 =>
  (bif decide (r3 > r1) then
    R r2 r3 h_1
  else
    R r r1 h_1
  )
theorem E_ref33_Newest (a : Sl) (b : Sl) (h : Heap) (R : ByteArray → Int → Heap → Prop) :
    VF Try.prog [] Try.f55 [.slice a.a a.n a.c, .slice b.a b.n b.c] h [.one .str, .one (.int .i64)] R = S_ref33_Newest a b h R := by kernel_rfl
theorem A_ref33_Newest {a : Sl} {b : Sl} {h : Heap} {R : ByteArray → Int → Heap → Prop} (hs : S_ref33_Newest a b h R) : C_ref33_Newest a b h R :=
  use_ Try.func55 (by kernel_rfl) (E_ref33_Newest a b h R) hs

/-- (*slot.Pair).Bytes -/
def S_slot_Pair_Bytes (p : Option Addr) (slot : Int) (h : Heap) (R : Sl → Heap → Prop) : Prop :=
  (bif p.isNone then
    R ⟨none, 0, 0⟩ h
  else
    (bif decide (slot < 0) then
      R ⟨none, 0, 0⟩ h
    else
      (bif decide (slot ≥ 2) then
        R ⟨none, 0, 0⟩ h
      else
        Nn p fun p1 =>
        IxA p1 2 slot 1 fun e =>
        Ld .ptr h e fun (x : Option Addr) =>
        C_disk_Disk_Bytes x h fun (r : Sl) h_ =>
        R r h_
      )
    )
  )
theorem E_slot_Pair_Bytes (p : Option Addr) (slot : Int) (h : Heap) (R : Sl → Heap → Prop) :
    VF Try.prog [] Try.f56 [.pointer p, .int .i64 slot] h [.one .sl] R = S_slot_Pair_Bytes p slot h R := by kernel_rfl
theorem A_slot_Pair_Bytes {p : Option Addr} {slot : Int} {h : Heap} {R : Sl → Heap → Prop} (hs : S_slot_Pair_Bytes p slot h R) : C_slot_Pair_Bytes p slot h R :=
  use_ Try.func56 (by kernel_rfl) (E_slot_Pair_Bytes p slot h R) hs

/-- (*slot.Pair).Read -/
def S_slot_Pair_Read (p : Option Addr) (h : Heap) (R : Sl → Int → Int → Heap → Prop) : Prop :=
  (bif p.isNone then
    R ⟨none, 0, 0⟩ 0 1 h
  else
    C_slot_Pair_newest p h fun (r : Int) (r1 : Sl) (r2 : Int) h_ =>
    (bif r2 == 0 then
      R ⟨none, 0, 0⟩ 0 6 h_
    else
      R r1 r2 0 h_
    )
  )
theorem E_slot_Pair_Read (p : Option Addr) (h : Heap) (R : Sl → Int → Int → Heap → Prop) :
    VF Try.prog [] Try.f57 [.pointer p] h [.one .sl, .one (.int .i64), .one (.int .i64)] R = S_slot_Pair_Read p h R := by kernel_rfl
theorem A_slot_Pair_Read {p : Option Addr} {h : Heap} {R : Sl → Int → Int → Heap → Prop} (hs : S_slot_Pair_Read p h R) : C_slot_Pair_Read p h R :=
  use_ Try.func57 (by kernel_rfl) (E_slot_Pair_Read p h R) hs

/-- kissinggateref33.Whole -/
def S_ref33_Whole (b : Sl) (h : Heap) (R : ByteArray → Int → Heap → Prop) : Prop :=
  C_ref03_Take b h fun (r : Sl) (r1 : Int) (r2 : Int) h_ =>
  (bif r2 != 0 then
    R (⟨#[]⟩ : ByteArray) 0 h_
  else
    (bif r1 != (b.n : Int) then
      R (⟨#[]⟩ : ByteArray) 0 h_
    else
      ToS Try.prog 22 9 r h_ fun str =>
      Alloc h_ (.cells #[.string str, .bool false] 152) fun p h_1 =>
      C_ref01_Reader_Int (some p) 1 1099511627776 h_1 fun (r3 : Int) h_2 =>
      Nn (some p) fun p1 =>
      Ld .bool h_2 (p1.add 1) fun (Bad : Bool) =>
      (bif Bad then
        R (⟨#[]⟩ : ByteArray) 0 h_2
      else
        Nn (some p) fun p2 =>
        Ld .str h_2 p2 fun (S : ByteArray) =>
        R S r3 h_2
      )
    )
  )
theorem E_ref33_Whole (b : Sl) (h : Heap) (R : ByteArray → Int → Heap → Prop) :
    VF Try.prog [] Try.f58 [.slice b.a b.n b.c] h [.one .str, .one (.int .i64)] R = S_ref33_Whole b h R := by kernel_rfl
theorem A_ref33_Whole {b : Sl} {h : Heap} {R : ByteArray → Int → Heap → Prop} (hs : S_ref33_Whole b h R) : C_ref33_Whole b h R :=
  use_ Try.func58 (by kernel_rfl) (E_ref33_Whole b h R) hs

/-- kissinggateref33.Bytes -/
def S_ref33_Bytes (n : Int) (content : Sl) (h : Heap) (R : ByteArray → Heap → Prop) : Prop :=
  ToS Try.prog 22 9 content h fun str =>
  C_ref01_Int n h fun (r : ByteArray) h_ =>
  (ToS Try.prog 22 9 content h_ fun str1 => (.string str1 : Value) = .string str) ∧
  Cat r str fun str2 =>
  ToB Try.prog 9 22 str2 h_ fun bs h_1 =>
  C_ref03_Put bs h_1 fun (r1 : Sl) h_2 =>
  ToS Try.prog 22 9 r1 h_2 fun str3 =>
  R str3 h_2
theorem E_ref33_Bytes (n : Int) (content : Sl) (h : Heap) (R : ByteArray → Heap → Prop) :
    VF Try.prog [] Try.f59 [.int .i64 n, .slice content.a content.n content.c] h [.one .str] R = S_ref33_Bytes n content h R := by kernel_rfl
theorem A_ref33_Bytes {n : Int} {content : Sl} {h : Heap} {R : ByteArray → Heap → Prop} (hs : S_ref33_Bytes n content h R) : C_ref33_Bytes n content h R :=
  use_ Try.func59 (by kernel_rfl) (E_ref33_Bytes n content h R) hs

/-- (*slot.Pair).Crash -/
def S_slot_Pair_Crash (p : Option Addr) (keep : Int) (at_ : Int) (by_ : Int) (h : Heap) (R : Int → Heap → Prop) : Prop :=
  (bif p.isNone then
    R 1 h
  else
    Nn p fun p1 =>
    Ld .ptr h p1 fun (l_0 : Option Addr) =>
    Ld .ptr h (p1.add 1) fun (l_1 : Option Addr) =>
    Loop [.one (.int .i64)] (fun _ (x17 : Int) h_ go =>
      (bif decide (x17 < 2) then
        OpP Try.prog (Instr.index 157 (.agg #[.pointer l_0, .pointer l_1]) (.int .i64 x17)) [.one .ptr] fun (x : Option Addr) =>
        C_slot_fall x keep at_ by_ h_ fun h_1 =>
        go (IntKind.i64.wrap (x17 + 1)) h_1
      else
        R 0 h_
      )
      ) (0, ()) h
  )
theorem E_slot_Pair_Crash (p : Option Addr) (keep : Int) (at_ : Int) (by_ : Int) (h : Heap) (R : Int → Heap → Prop) :
    VF Try.prog [(58, [(17, .one (.int .i64))])] Try.f60 [.pointer p, .int .i64 keep, .int .i64 at_, .int .u8 by_] h [.one (.int .i64)] R = S_slot_Pair_Crash p keep at_ by_ h R := by kernel_rfl
theorem A_slot_Pair_Crash {p : Option Addr} {keep : Int} {at_ : Int} {by_ : Int} {h : Heap} {R : Int → Heap → Prop} (hs : S_slot_Pair_Crash p keep at_ by_ h R) : C_slot_Pair_Crash p keep at_ by_ h R :=
  use_ Try.func60 (by kernel_rfl) (E_slot_Pair_Crash p keep at_ by_ h R) hs

/-- (*slot.Pair).goal -/
def S_slot_Pair_goal (p : Option Addr) (content : Sl) (h : Heap) (R : Option Addr → Sl → Int → Heap → Prop) : Prop :=
  (bif p.isNone then
    R none ⟨none, 0, 0⟩ 1 h
  else
    (bif decide ((content.n : Int) > 4088) then
      R none ⟨none, 0, 0⟩ 4 h
    else
      C_slot_Pair_newest p h fun (r : Int) (r1 : Sl) (r2 : Int) h_ =>
      Join [.one (.int .i64)] (fun _ (at_ : Int) h_1 =>
        C_word_Int ⟨none, 0, 0⟩ (IntKind.i64.wrap (r2 + 1)) h_1 fun (r3 : Sl) h_2 =>
        App Try.prog 22 22 r3 content h_2 fun s h_3 =>
        C_frame_Put ⟨none, 0, 0⟩ s h_3 fun (r4 : Sl) (r5 : Int) h_4 =>
        Nn p fun p1 =>
        IxA p1 2 at_ 1 fun e =>
        Ld .ptr h_4 e fun (x : Option Addr) =>
        R x r4 r5 h_4
        ) fun J =>
      (bif decide (r2 ≥ 1099511627776) then
        R none ⟨none, 0, 0⟩ 7 h_
      else
        (bif decide (r2 > 0) then
          Let (IntKind.i64.wrap (1 - r) : Int) fun at_1 =>
          J at_1 h_
        else
          J r h_
        )
      )
    )
  )
theorem E_slot_Pair_goal (p : Option Addr) (content : Sl) (h : Heap) (R : Option Addr → Sl → Int → Heap → Prop) :
    VF Try.prog [(62, [(7, .one (.int .i64))])] Try.f98 [.pointer p, .slice content.a content.n content.c] h [.one .ptr, .one .sl, .one (.int .i64)] R = S_slot_Pair_goal p content h R := by kernel_rfl
theorem A_slot_Pair_goal {p : Option Addr} {content : Sl} {h : Heap} {R : Option Addr → Sl → Int → Heap → Prop} (hs : S_slot_Pair_goal p content h R) : C_slot_Pair_goal p content h R :=
  use_ Try.func98 (by kernel_rfl) (E_slot_Pair_goal p content h R) hs

/-- slot.does -/
def S_slot_does (d : Option Addr) (b : Sl) (most : Int) (h : Heap) (R : Heap → Prop) : Prop :=
  Join [] (fun _ h_ =>
    (bif decide (most > 1) then
      C_disk_Disk_Write d b h_ fun (r : Int) h_1 =>
      (bif decide (most > 2) then
        C_disk_Disk_Sync d h_1 fun (r1 : Int) h_2 =>
        R h_2
      else
        R h_1
      )
    else
      (bif decide (most > 2) then
        C_disk_Disk_Sync d h_ fun (r2 : Int) h_3 =>
        R h_3
      else
        R h_
      )
    )
    ) fun J =>
  (bif decide (most > 0) then
    C_disk_Disk_Cut d 0 h fun (r3 : Int) h_4 =>
    J  h_4
  else
    J  h
  )
theorem E_slot_does (d : Option Addr) (b : Sl) (most : Int) (h : Heap) (R : Heap → Prop) :
    VF Try.prog [(5, [])] Try.f99 [.pointer d, .slice b.a b.n b.c, .int .i64 most] h [] R = S_slot_does d b most h R := by kernel_rfl
theorem A_slot_does {d : Option Addr} {b : Sl} {most : Int} {h : Heap} {R : Heap → Prop} (hs : S_slot_does d b most h R) : C_slot_does d b most h R :=
  use_ Try.func99 (by kernel_rfl) (E_slot_does d b most h R) hs

/-- slot.fall -/
def S_slot_fall (d : Option Addr) (keep : Int) (at_ : Int) (by_ : Int) (h : Heap) (R : Heap → Prop) : Prop :=
  C_disk_Disk_Crash d keep at_ by_ h fun (r : Int) h_ =>
  C_disk_Disk_Sync d h_ fun (r1 : Int) h_1 =>
  R h_1
theorem E_slot_fall (d : Option Addr) (keep : Int) (at_ : Int) (by_ : Int) (h : Heap) (R : Heap → Prop) :
    VF Try.prog [] Try.f100 [.pointer d, .int .i64 keep, .int .i64 at_, .int .u8 by_] h [] R = S_slot_fall d keep at_ by_ h R := by kernel_rfl
theorem A_slot_fall {d : Option Addr} {keep : Int} {at_ : Int} {by_ : Int} {h : Heap} {R : Heap → Prop} (hs : S_slot_fall d keep at_ by_ h R) : C_slot_fall d keep at_ by_ h R :=
  use_ Try.func100 (by kernel_rfl) (E_slot_fall d keep at_ by_ h R) hs

/-- (*slot.Pair).newest -/
def S_slot_Pair_newest (p : Option Addr) (h : Heap) (R : Int → Sl → Int → Heap → Prop) : Prop :=
  Nn p fun p1 =>
  IxA p1 2 0 1 fun e =>
  Ld .ptr h e fun (x : Option Addr) =>
  C_slot_whole x h fun (r : Sl) (r1 : Int) h_ =>
  Nn p fun p2 =>
  IxA p2 2 1 1 fun e1 =>
  Ld .ptr h_ e1 fun (x1 : Option Addr) =>
  C_slot_whole x1 h_ fun (r2 : Sl) (r3 : Int) h_1 =>
  (bif decide (r3 > r1) then
    R 1 r2 r3 h_1
  else
    R 0 r r1 h_1
  )
theorem E_slot_Pair_newest (p : Option Addr) (h : Heap) (R : Int → Sl → Int → Heap → Prop) :
    VF Try.prog [] Try.f101 [.pointer p] h [.one (.int .i64), .one .sl, .one (.int .i64)] R = S_slot_Pair_newest p h R := by kernel_rfl
theorem A_slot_Pair_newest {p : Option Addr} {h : Heap} {R : Int → Sl → Int → Heap → Prop} (hs : S_slot_Pair_newest p h R) : C_slot_Pair_newest p h R :=
  use_ Try.func101 (by kernel_rfl) (E_slot_Pair_newest p h R) hs

/-- slot.whole -/
def S_slot_whole (d : Option Addr) (h : Heap) (R : Sl → Int → Heap → Prop) : Prop :=
  C_disk_Disk_Bytes d h fun (r : Sl) h_ =>
  C_frame_Whole r h_ fun (r1 : Sl) (r2 : Int) h_1 =>
  (bif r2 != 0 then
    R ⟨none, 0, 0⟩ 0 h_1
  else
    C_word_Read r1 h_1 fun (r3 : Option Addr) h_2 =>
    C_word_Reader_Int r3 1 1099511627776 h_2 fun (r4 : Int) h_3 =>
    C_word_Reader_Fail r3 h_3 fun (r5 : Bool) h_4 =>
    (bif r5 then
      R ⟨none, 0, 0⟩ 0 h_4
    else
      Cut Try.prog 22 r1 (some (.int .i64 8)) none none fun s =>
      R s r4 h_4
    )
  )
theorem E_slot_whole (d : Option Addr) (h : Heap) (R : Sl → Int → Heap → Prop) :
    VF Try.prog [] Try.f116 [.pointer d] h [.one .sl, .one (.int .i64)] R = S_slot_whole d h R := by kernel_rfl
theorem A_slot_whole {d : Option Addr} {h : Heap} {R : Sl → Int → Heap → Prop} (hs : S_slot_whole d h R) : C_slot_whole d h R :=
  use_ Try.func116 (by kernel_rfl) (E_slot_whole d h R) hs

end Go.Proofs.Ytnognoiaakiepaa
