/- Printed by a program: what each function asks of the heap, that this is the reading of its code, and what follows for a call. -/
import Derived.Test.YtnognoiaakiepaaSC
import Derived.Test.YtnognoiaakiepaaProg
set_option maxRecDepth 1000000
namespace Go.Proofs.Ytnognoiaakiepaa
open Go

/-- wal.Read -/
def S_wal_Read (b : Sl) (h : Heap) (R : Sl → Int → Int → Heap → Prop) : Prop :=
  C_frame_All b h fun (r : Sl) (r1 : Int) (r2 : Int) h_ =>
  Loop [.one .sl, .one (.int .i64), .one (.int .i64)] (fun _ (out : Sl) (at_ : Int) (x20 : Int) h_1 go =>
    (bif decide (x20 < (r.n : Int)) then
      Ix r x20 1 fun e =>
      Ld .sl h_1 e fun (x : Sl) =>
      (bif (x.n : Int) == 0 then
        R out at_ 2 h_1
      else
        Ix x 0 1 fun e1 =>
        Ld (.int .u8) h_1 e1 fun (x1 : Int) =>
        (bif x1 == 0 then
          R out at_ 2 h_1
        else
          Ix x 0 1 fun e2 =>
          Ld (.int .u8) h_1 e2 fun (x2 : Int) =>
          Cut Try.prog 22 x (some (.int .i64 1)) none none fun s =>
          Alloc h_1 (.cells #[.int .u8 x2, .slice s.a s.n s.c] 24) fun b1 h_2 =>
          App Try.prog 26 26 out ⟨some b1, 1, 1⟩ h_2 fun s1 h_3 =>
          C_frame_Size (x.n : Int) h_3 fun (r3 : Int) h_4 =>
          Let (IntKind.i64.wrap (at_ + r3) : Int) fun at_1 =>
          go s1 at_1 (IntKind.i64.wrap (x20 + 1)) h_4
        )
      )
    else
      R out at_ r2 h_1
    )
    ) (⟨none, 0, 0⟩, 0, 0, ()) h_
theorem E_wal_Read (b : Sl) (h : Heap) (R : Sl → Int → Int → Heap → Prop) :
    VF Try.prog [(250, [(5, .one .sl), (9, .one (.int .i64)), (20, .one (.int .i64))])] Try.f16 [.slice b.a b.n b.c] h [.one .sl, .one (.int .i64), .one (.int .i64)] R = S_wal_Read b h R := by kernel_rfl
theorem A_wal_Read {b : Sl} {h : Heap} {R : Sl → Int → Int → Heap → Prop} (hs : S_wal_Read b h R) : C_wal_Read b h R :=
  use_ Try.func16 (by kernel_rfl) (E_wal_Read b h R) hs

/-- kissinggateref05.Read -/
def S_ref05_Read (b : Sl) (h : Heap) (R : Sl → Int → Int → Heap → Prop) : Prop :=
  Loop [.one .sl, .one (.int .i64)] (fun _ (out : Sl) (at_ : Int) h_ go =>
    (bif decide (at_ < (b.n : Int)) then
      Cut Try.prog 22 b (some (.int .i64 at_)) none none fun s =>
      C_ref03_Take s h_ fun (r : Sl) (r1 : Int) (r2 : Int) h_1 =>
      (bif r2 != 0 then
        R out at_ r2 h_1
      else
        (bif (r.n : Int) == 0 then
          R out at_ 2 h_1
        else
          Ix r 0 1 fun e =>
          Ld (.int .u8) h_1 e fun (x : Int) =>
          (bif x == 0 then
            R out at_ 2 h_1
          else
            Ix r 0 1 fun e1 =>
            Ld (.int .u8) h_1 e1 fun (x1 : Int) =>
            Cut Try.prog 22 r (some (.int .i64 1)) none none fun s1 =>
            ToS Try.prog 22 9 s1 h_1 fun str =>
            Alloc h_1 (.cells #[.int .u8 x1, .string str] 37) fun b1 h_2 =>
            App Try.prog 30 30 out ⟨some b1, 1, 1⟩ h_2 fun s2 h_3 =>
            Let (IntKind.i64.wrap (at_ + r1) : Int) fun at_1 =>
            go s2 at_1 h_3
          )
        )
      )
    else
      R out at_ 0 h_
    )
    ) (⟨none, 0, 0⟩, 0, ()) h
theorem E_ref05_Read (b : Sl) (h : Heap) (R : Sl → Int → Int → Heap → Prop) :
    VF Try.prog [(60, [(5, .one .sl), (6, .one (.int .i64))])] Try.f17 [.slice b.a b.n b.c] h [.one .sl, .one (.int .i64), .one (.int .i64)] R = S_ref05_Read b h R := by kernel_rfl
theorem A_ref05_Read {b : Sl} {h : Heap} {R : Sl → Int → Int → Heap → Prop} (hs : S_ref05_Read b h R) : C_ref05_Read b h R :=
  use_ Try.func17 (by kernel_rfl) (E_ref05_Read b h R) hs

/-- wal.Bytes -/
def S_wal_Bytes (r : KL [.int .u8, .sl]) (h : Heap) (R : Sl → Int → Heap → Prop) : Prop :=
  Alloc h (.cells #[.int .u8 r.1, .slice r.2.1.a r.2.1.n r.2.1.c] 24) fun r1 h_ =>
  Ld (.int .u8) h_ r1 fun (Kind : Int) =>
  (bif Kind == 0 then
    R ⟨none, 0, 0⟩ 1 h_
  else
    Ld .sl h_ (r1.add 1) fun (Data : Sl) =>
    (bif decide ((Data.n : Int) ≥ 4096) then
      R ⟨none, 0, 0⟩ 4 h_
    else
      Ld (.int .u8) h_ r1 fun (Kind1 : Int) =>
      Alloc h_ (.cells #[.int .u8 Kind1] 5) fun b h_1 =>
      Ld .sl h_1 (r1.add 1) fun (Data1 : Sl) =>
      App Try.prog 22 22 ⟨some b, 1, 1⟩ Data1 h_1 fun s h_2 =>
      C_frame_Put ⟨none, 0, 0⟩ s h_2 fun (r2 : Sl) (r3 : Int) h_3 =>
      R r2 r3 h_3
    )
  )
theorem E_wal_Bytes (r : KL [.int .u8, .sl]) (h : Heap) (R : Sl → Int → Heap → Prop) :
    VF Try.prog [] Try.f19 [.agg ⟨KL.vals [.int .u8, .sl] r⟩] h [.one .sl, .one (.int .i64)] R = S_wal_Bytes r h R := by kernel_rfl
theorem A_wal_Bytes {r : KL [.int .u8, .sl]} {h : Heap} {R : Sl → Int → Heap → Prop} (hs : S_wal_Bytes r h R) : C_wal_Bytes r h R :=
  use_ Try.func19 (by kernel_rfl) (E_wal_Bytes r h R) hs

/-- kissinggateref05.Right -/
def S_ref05_Right (r : KL [.int .u8, .str]) (h : Heap) (R : Bool → Heap → Prop) : Prop :=
  Alloc h (.cells #[.int .u8 r.1, .string r.2.1] 37) fun r1 h_ =>
  Ld (.int .u8) h_ r1 fun (Kind : Int) =>
  (bif decide (Kind > 0) then
    Ld .str h_ (r1.add 1) fun (Data : ByteArray) =>
    R (decide ((Data.size : Int) < 4096)) h_
  else
    R false h_
  )
theorem E_ref05_Right (r : KL [.int .u8, .str]) (h : Heap) (R : Bool → Heap → Prop) :
    VF Try.prog [] Try.f20 [.agg ⟨KL.vals [.int .u8, .str] r⟩] h [.one .bool] R = S_ref05_Right r h R := by kernel_rfl
theorem A_ref05_Right {r : KL [.int .u8, .str]} {h : Heap} {R : Bool → Heap → Prop} (hs : S_ref05_Right r h R) : C_ref05_Right r h R :=
  use_ Try.func20 (by kernel_rfl) (E_ref05_Right r h R) hs

/-- kissinggateref05.Bytes -/
def S_ref05_Bytes (r : KL [.int .u8, .str]) (h : Heap) (R : Sl → Heap → Prop) : Prop :=
  Alloc h (.cells #[.int .u8 r.1, .string r.2.1] 37) fun r1 h_ =>
  Ld (.int .u8) h_ r1 fun (Kind : Int) =>
  Alloc h_ (.cells #[.int .u8 Kind] 5) fun b h_1 =>
  Ld .str h_1 (r1.add 1) fun (Data : ByteArray) =>
  OpT Try.prog (Builtin.append_ #[22, 9] 22 #[.slice (some b) 1 1, .string Data]) h_1 [.one .sl] fun s h_2 =>
  C_ref03_Put s h_2 fun (r2 : Sl) h_3 =>
  R r2 h_3
theorem E_ref05_Bytes (r : KL [.int .u8, .str]) (h : Heap) (R : Sl → Heap → Prop) :
    VF Try.prog [] Try.f21 [.agg ⟨KL.vals [.int .u8, .str] r⟩] h [.one .sl] R = S_ref05_Bytes r h R := by kernel_rfl
theorem A_ref05_Bytes {r : KL [.int .u8, .str]} {h : Heap} {R : Sl → Heap → Prop} (hs : S_ref05_Bytes r h R) : C_ref05_Bytes r h R :=
  use_ Try.func21 (by kernel_rfl) (E_ref05_Bytes r h R) hs

/-- wal.Append -/
def S_wal_Append (d : Option Addr) (r : KL [.int .u8, .sl]) (h : Heap) (R : Int → Heap → Prop) : Prop :=
  Alloc h (.cells #[.int .u8 r.1, .slice r.2.1.a r.2.1.n r.2.1.c] 24) fun r1 h_ =>
  (bif d.isNone then
    R 1 h_
  else
    Ld (.int .u8) h_ r1 fun (x_Kind : Int) =>
    Ld .sl h_ (r1.add 1) fun (x_Data : Sl) =>
    C_wal_Bytes (x_Kind, x_Data, ()) h_ fun (r2 : Sl) (r3 : Int) h_1 =>
    (bif r3 != 0 then
      R r3 h_1
    else
      C_disk_Disk_Write d r2 h_1 fun (r4 : Int) h_2 =>
      R r4 h_2
    )
  )
theorem E_wal_Append (d : Option Addr) (r : KL [.int .u8, .sl]) (h : Heap) (R : Int → Heap → Prop) :
    VF Try.prog [] Try.f24 [.pointer d, .agg ⟨KL.vals [.int .u8, .sl] r⟩] h [.one (.int .i64)] R = S_wal_Append d r h R := by kernel_rfl
theorem A_wal_Append {d : Option Addr} {r : KL [.int .u8, .sl]} {h : Heap} {R : Int → Heap → Prop} (hs : S_wal_Append d r h R) : C_wal_Append d r h R :=
  use_ Try.func24 (by kernel_rfl) (E_wal_Append d r h R) hs

/-- wal.Recover -/
def S_wal_Recover (d : Option Addr) (h : Heap) (R : Sl → Int → Heap → Prop) : Prop :=
  (bif d.isNone then
    R ⟨none, 0, 0⟩ 1 h
  else
    C_disk_Disk_Bytes d h fun (r : Sl) h_ =>
    C_wal_Read r h_ fun (r1 : Sl) (r2 : Int) (r3 : Int) h_1 =>
    C_disk_Disk_Synced d h_1 fun (r4 : Int) h_2 =>
    (bif decide (r2 < r4) then
      R ⟨none, 0, 0⟩ 3 h_2
    else
      C_disk_Disk_Cut d r2 h_2 fun (r5 : Int) h_3 =>
      R r1 0 h_3
    )
  )
theorem E_wal_Recover (d : Option Addr) (h : Heap) (R : Sl → Int → Heap → Prop) :
    VF Try.prog [] Try.f27 [.pointer d] h [.one .sl, .one (.int .i64)] R = S_wal_Recover d h R := by kernel_rfl
theorem A_wal_Recover {d : Option Addr} {h : Heap} {R : Sl → Int → Heap → Prop} (hs : S_wal_Recover d h R) : C_wal_Recover d h R :=
  use_ Try.func27 (by kernel_rfl) (E_wal_Recover d h R) hs

end Go.Proofs.Ytnognoiaakiepaa
