/- Printed by a program: what each function asks of the heap, that this is the reading of its code, and what follows for a call. -/
import Derived.Test.YtnognoiaakiepaaSC
import Derived.Test.YtnognoiaakiepaaProg
set_option maxRecDepth 1000000
namespace Go.Proofs.Ytnognoiaakiepaa
open Go

/-- disk.New -/
def S_disk_New  (h : Heap) (R : Option Addr → Heap → Prop) : Prop :=
  Alloc h (.cells #[.slice none 0 0, .int .i64 0] 133) fun p h_ =>
  R (some p) h_
theorem E_disk_New  (h : Heap) (R : Option Addr → Heap → Prop) :
    VF Try.prog [] Try.f22 [] h [.one .ptr] R = S_disk_New  h R := by kernel_rfl
theorem A_disk_New  {h : Heap} {R : Option Addr → Heap → Prop} (hs : S_disk_New  h R) : C_disk_New  h R :=
  use_ Try.func22 (by kernel_rfl) (E_disk_New  h R) hs

/-- (*disk.Disk).Sync -/
def S_disk_Disk_Sync (d : Option Addr) (h : Heap) (R : Int → Heap → Prop) : Prop :=
  (bif d.isNone then
    R 1 h
  else
    Nn d fun p =>
    Ld .sl h p fun (b : Sl) =>
    Nn d fun p1 =>
    St h (p1.add 1) (.int .i64 (b.n : Int)) fun h_ =>
    R 0 h_
  )
theorem E_disk_Disk_Sync (d : Option Addr) (h : Heap) (R : Int → Heap → Prop) :
    VF Try.prog [] Try.f23 [.pointer d] h [.one (.int .i64)] R = S_disk_Disk_Sync d h R := by kernel_rfl
theorem A_disk_Disk_Sync {d : Option Addr} {h : Heap} {R : Int → Heap → Prop} (hs : S_disk_Disk_Sync d h R) : C_disk_Disk_Sync d h R :=
  use_ Try.func23 (by kernel_rfl) (E_disk_Disk_Sync d h R) hs

/-- (*disk.Disk).Crash -/
def S_disk_Disk_Crash (d : Option Addr) (keep : Int) (at_ : Int) (by_ : Int) (h : Heap) (R : Int → Heap → Prop) : Prop :=
  (bif d.isNone then
    R 1 h
  else
    Nn d fun p =>
    Ld .sl h p fun (b : Sl) =>
    Nn d fun p1 =>
    Ld (.int .i64) h (p1.add 1) fun (synced : Int) =>
    Let (if (IntKind.i64.wrap ((b.n : Int) - synced)) < (if 0 > keep then 0 else keep) then IntKind.i64.wrap ((b.n : Int) - synced) else if 0 > keep then 0 else keep : Int) fun keep1 =>
    Nn d fun p2 =>
    Ld .sl h p2 fun (b1 : Sl) =>
    Nn d fun p3 =>
    Ld (.int .i64) h (p3.add 1) fun (synced1 : Int) =>
    Cut Try.prog 22 b1 none (some (.int .i64 (IntKind.i64.wrap (synced1 + keep1)))) none fun s =>
    Nn d fun p4 =>
    St h p4 (.slice s.a s.n s.c) fun h_ =>
    (bif decide (at_ ≥ 0) then
      (bif decide (at_ < keep1) then
        Nn d fun p5 =>
        Ld .sl h_ p5 fun (b2 : Sl) =>
        Nn d fun p6 =>
        Ld (.int .i64) h_ (p6.add 1) fun (synced2 : Int) =>
        Ix b2 (IntKind.i64.wrap (synced2 + at_)) 1 fun e =>
        Ld (.int .u8) h_ e fun (x : Int) =>
        Ix b2 (IntKind.i64.wrap (synced2 + at_)) 1 fun e1 =>
        St h_ e1 (.int .u8 (bitV .xor .u8 x by_)) fun h_1 =>
        R 0 h_1
      else
        R 0 h_
      )
    else
      R 0 h_
    )
  )
theorem E_disk_Disk_Crash (d : Option Addr) (keep : Int) (at_ : Int) (by_ : Int) (h : Heap) (R : Int → Heap → Prop) :
    VF Try.prog [] Try.f25 [.pointer d, .int .i64 keep, .int .i64 at_, .int .u8 by_] h [.one (.int .i64)] R = S_disk_Disk_Crash d keep at_ by_ h R := by kernel_rfl
theorem A_disk_Disk_Crash {d : Option Addr} {keep : Int} {at_ : Int} {by_ : Int} {h : Heap} {R : Int → Heap → Prop} (hs : S_disk_Disk_Crash d keep at_ by_ h R) : C_disk_Disk_Crash d keep at_ by_ h R :=
  use_ Try.func25 (by kernel_rfl) (E_disk_Disk_Crash d keep at_ by_ h R) hs

/-- (*disk.Disk).Bytes -/
def S_disk_Disk_Bytes (d : Option Addr) (h : Heap) (R : Sl → Heap → Prop) : Prop :=
  (bif d.isNone then
    R ⟨none, 0, 0⟩ h
  else
    Nn d fun p =>
    Ld .sl h p fun (b : Sl) =>
    C_bytes_Clone b h fun (r : Sl) h_ =>
    R r h_
  )
theorem E_disk_Disk_Bytes (d : Option Addr) (h : Heap) (R : Sl → Heap → Prop) :
    VF Try.prog [] Try.f26 [.pointer d] h [.one .sl] R = S_disk_Disk_Bytes d h R := by kernel_rfl
theorem A_disk_Disk_Bytes {d : Option Addr} {h : Heap} {R : Sl → Heap → Prop} (hs : S_disk_Disk_Bytes d h R) : C_disk_Disk_Bytes d h R :=
  use_ Try.func26 (by kernel_rfl) (E_disk_Disk_Bytes d h R) hs

/-- (*disk.Disk).Len -/
def S_disk_Disk_Len (d : Option Addr) (h : Heap) (R : Int → Heap → Prop) : Prop :=
  (bif d.isNone then
    R 0 h
  else
    Nn d fun p =>
    Ld .sl h p fun (b : Sl) =>
    R (b.n : Int) h
  )
theorem E_disk_Disk_Len (d : Option Addr) (h : Heap) (R : Int → Heap → Prop) :
    VF Try.prog [] Try.f28 [.pointer d] h [.one (.int .i64)] R = S_disk_Disk_Len d h R := by kernel_rfl
theorem A_disk_Disk_Len {d : Option Addr} {h : Heap} {R : Int → Heap → Prop} (hs : S_disk_Disk_Len d h R) : C_disk_Disk_Len d h R :=
  use_ Try.func28 (by kernel_rfl) (E_disk_Disk_Len d h R) hs

/-- (*disk.Disk).Synced -/
def S_disk_Disk_Synced (d : Option Addr) (h : Heap) (R : Int → Heap → Prop) : Prop :=
  (bif d.isNone then
    R 0 h
  else
    Nn d fun p =>
    Ld (.int .i64) h (p.add 1) fun (synced : Int) =>
    R synced h
  )
theorem E_disk_Disk_Synced (d : Option Addr) (h : Heap) (R : Int → Heap → Prop) :
    VF Try.prog [] Try.f29 [.pointer d] h [.one (.int .i64)] R = S_disk_Disk_Synced d h R := by kernel_rfl
theorem A_disk_Disk_Synced {d : Option Addr} {h : Heap} {R : Int → Heap → Prop} (hs : S_disk_Disk_Synced d h R) : C_disk_Disk_Synced d h R :=
  use_ Try.func29 (by kernel_rfl) (E_disk_Disk_Synced d h R) hs

/-- (*disk.Disk).Write -/
def S_disk_Disk_Write (d : Option Addr) (b : Sl) (h : Heap) (R : Int → Heap → Prop) : Prop :=
  (bif d.isNone then
    R 1 h
  else
    Nn d fun p =>
    Ld .sl h p fun (b1 : Sl) =>
    (bif decide ((IntKind.i64.wrap ((b1.n : Int) + (b.n : Int))) > 1048576) then
      R 7 h
    else
      Nn d fun p1 =>
      Ld .sl h p1 fun (b2 : Sl) =>
      App Try.prog 22 22 b2 b h fun s h_ =>
      Nn d fun p2 =>
      St h_ p2 (.slice s.a s.n s.c) fun h_1 =>
      R 0 h_1
    )
  )
theorem E_disk_Disk_Write (d : Option Addr) (b : Sl) (h : Heap) (R : Int → Heap → Prop) :
    VF Try.prog [] Try.f30 [.pointer d, .slice b.a b.n b.c] h [.one (.int .i64)] R = S_disk_Disk_Write d b h R := by kernel_rfl
theorem A_disk_Disk_Write {d : Option Addr} {b : Sl} {h : Heap} {R : Int → Heap → Prop} (hs : S_disk_Disk_Write d b h R) : C_disk_Disk_Write d b h R :=
  use_ Try.func30 (by kernel_rfl) (E_disk_Disk_Write d b h R) hs

/-- (*disk.Disk).Spoil -/
def S_disk_Disk_Spoil (d : Option Addr) (at_ : Int) (by_ : Int) (h : Heap) (R : Int → Heap → Prop) : Prop :=
  Join [] (fun _ h_ =>
    Nn d fun p =>
    Ld .sl h_ p fun (b : Sl) =>
    Ix b at_ 1 fun e =>
    Ld (.int .u8) h_ e fun (x : Int) =>
    Ix b at_ 1 fun e1 =>
    St h_ e1 (.int .u8 (bitV .xor .u8 x by_)) fun h_1 =>
    R 0 h_1
    ) fun J =>
  (bif d.isNone then
    R 1 h
  else
    (bif decide (at_ < 0) then
      R 5 h
    else
      Nn d fun p1 =>
      Ld (.int .i64) h (p1.add 1) fun (synced : Int) =>
      (bif decide (at_ ≥ synced) then
        R 5 h
      else
        J  h
      )
    )
  )
theorem E_disk_Disk_Spoil (d : Option Addr) (at_ : Int) (by_ : Int) (h : Heap) (R : Int → Heap → Prop) :
    VF Try.prog [(6, [])] Try.f31 [.pointer d, .int .i64 at_, .int .u8 by_] h [.one (.int .i64)] R = S_disk_Disk_Spoil d at_ by_ h R := by kernel_rfl
theorem A_disk_Disk_Spoil {d : Option Addr} {at_ : Int} {by_ : Int} {h : Heap} {R : Int → Heap → Prop} (hs : S_disk_Disk_Spoil d at_ by_ h R) : C_disk_Disk_Spoil d at_ by_ h R :=
  use_ Try.func31 (by kernel_rfl) (E_disk_Disk_Spoil d at_ by_ h R) hs

/-- (*disk.Disk).Cut -/
def S_disk_Disk_Cut (d : Option Addr) (n : Int) (h : Heap) (R : Int → Heap → Prop) : Prop :=
  Join [] (fun _ h_ =>
    Nn d fun p =>
    Ld .sl h_ p fun (b : Sl) =>
    Cut Try.prog 22 b none (some (.int .i64 n)) none fun s =>
    Nn d fun p1 =>
    St h_ p1 (.slice s.a s.n s.c) fun h_1 =>
    C_disk_Disk_Sync d h_1 fun (r : Int) h_2 =>
    R r h_2
    ) fun J =>
  (bif d.isNone then
    R 1 h
  else
    (bif decide (n < 0) then
      R 5 h
    else
      Nn d fun p2 =>
      Ld .sl h p2 fun (b1 : Sl) =>
      (bif decide (n > (b1.n : Int)) then
        R 5 h
      else
        J  h
      )
    )
  )
theorem E_disk_Disk_Cut (d : Option Addr) (n : Int) (h : Heap) (R : Int → Heap → Prop) :
    VF Try.prog [(6, [])] Try.f76 [.pointer d, .int .i64 n] h [.one (.int .i64)] R = S_disk_Disk_Cut d n h R := by kernel_rfl
theorem A_disk_Disk_Cut {d : Option Addr} {n : Int} {h : Heap} {R : Int → Heap → Prop} (hs : S_disk_Disk_Cut d n h R) : C_disk_Disk_Cut d n h R :=
  use_ Try.func76 (by kernel_rfl) (E_disk_Disk_Cut d n h R) hs

end Go.Proofs.Ytnognoiaakiepaa
