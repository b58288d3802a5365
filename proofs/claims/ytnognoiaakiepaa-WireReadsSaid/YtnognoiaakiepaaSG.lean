/- Printed by a program: what each function asks of the heap, that this is the reading of its code, and what follows for a call. -/
import Derived.Test.YtnognoiaakiepaaSC
import Derived.Test.YtnognoiaakiepaaProg
set_option maxRecDepth 1000000
namespace Go.Proofs.Ytnognoiaakiepaa
open Go

/-- frame.All -/
def S_frame_All (b : Sl) (h : Heap) (R : Sl → Int → Int → Heap → Prop) : Prop :=
  Loop [.one .sl, .one (.int .i64)] (fun _ (out : Sl) (at_ : Int) h_ go =>
    (bif decide (at_ < (b.n : Int)) then
      Cut Try.prog 22 b (some (.int .i64 at_)) none none fun s =>
      C_frame_Take s h_ fun (r : Sl) (r1 : Int) (r2 : Int) h_1 =>
      (bif r2 != 0 then
        R out at_ r2 h_1
      else
        Alloc h_1 (.cells #[.slice r.a r.n r.c] 22) fun b1 h_2 =>
        App Try.prog 108 108 out ⟨some b1, 1, 1⟩ h_2 fun s1 h_3 =>
        Let (IntKind.i64.wrap (at_ + r1) : Int) fun at_1 =>
        go s1 at_1 h_3
      )
    else
      R out at_ 0 h_
    )
    ) (⟨none, 0, 0⟩, 0, ()) h
theorem E_frame_All (b : Sl) (h : Heap) (R : Sl → Int → Int → Heap → Prop) :
    VF Try.prog [(60, [(5, .one .sl), (6, .one (.int .i64))])] Try.f70 [.slice b.a b.n b.c] h [.one .sl, .one (.int .i64), .one (.int .i64)] R = S_frame_All b h R := by kernel_rfl
theorem A_frame_All {b : Sl} {h : Heap} {R : Sl → Int → Int → Heap → Prop} (hs : S_frame_All b h R) : C_frame_All b h R :=
  use_ Try.func70 (by kernel_rfl) (E_frame_All b h R) hs

/-- frame.Size -/
def S_frame_Size (n : Int) (h : Heap) (R : Int → Heap → Prop) : Prop :=
  R (IntKind.i64.wrap ((IntKind.i64.wrap (4 + (if 0 > n then 0 else n))) + 4)) h
theorem E_frame_Size (n : Int) (h : Heap) (R : Int → Heap → Prop) :
    VF Try.prog [] Try.f71 [.int .i64 n] h [.one (.int .i64)] R = S_frame_Size n h R := by kernel_rfl
theorem A_frame_Size {n : Int} {h : Heap} {R : Int → Heap → Prop} (hs : S_frame_Size n h R) : C_frame_Size n h R :=
  use_ Try.func71 (by kernel_rfl) (E_frame_Size n h R) hs

/-- kissinggateref03.Take -/
def S_ref03_Take (b : Sl) (h : Heap) (R : Sl → Int → Int → Heap → Prop) : Prop :=
  (bif decide ((b.n : Int) < 4) then
    R ⟨none, 0, 0⟩ 0 2 h
  else
    Ix b 0 1 fun e =>
    Ld (.int .u8) h e fun (x : Int) =>
    Ix b 2 1 fun e1 =>
    Ld (.int .u8) h e1 fun (x1 : Int) =>
    (bif (IntKind.u8.wrap (x + x1)) != 255 then
      R ⟨none, 0, 0⟩ 0 3 h
    else
      Ix b 1 1 fun e2 =>
      Ld (.int .u8) h e2 fun (x2 : Int) =>
      Ix b 3 1 fun e3 =>
      Ld (.int .u8) h e3 fun (x3 : Int) =>
      (bif (IntKind.u8.wrap (x2 + x3)) != 255 then
        R ⟨none, 0, 0⟩ 0 3 h
      else
        Ix b 0 1 fun e4 =>
        Ld (.int .u8) h e4 fun (x4 : Int) =>
        Ix b 1 1 fun e5 =>
        Ld (.int .u8) h e5 fun (x5 : Int) =>
        Let (IntKind.i64.wrap ((IntKind.i64.wrap ((IntKind.i64.wrap x4) * 256)) + (IntKind.i64.wrap x5)) : Int) fun n =>
        (bif decide (n > 4096) then
          R ⟨none, 0, 0⟩ 0 4 h
        else
          (bif decide ((b.n : Int) < (IntKind.i64.wrap (n + 8))) then
            R ⟨none, 0, 0⟩ 0 2 h
          else
            Alloc h (.cells #[] 5) fun b1 h_ =>
            Cut Try.prog 22 b (some (.int .i64 4)) (some (.int .i64 (IntKind.i64.wrap (n + 4)))) none fun s =>
            App Try.prog 22 22 ⟨some b1, 0, 0⟩ s h_ fun s1 h_1 =>
            Cut Try.prog 22 b none (some (.int .i64 (IntKind.i64.wrap (n + 8)))) none fun s2 =>
            ToS Try.prog 22 9 s2 h_1 fun str =>
            C_ref03_Put s1 h_1 fun (r : Sl) h_2 =>
            (ToS Try.prog 22 9 s2 h_2 fun str1 => (.string str1 : Value) = .string str) ∧
            ToS Try.prog 22 9 r h_2 fun str2 =>
            (bif !(str2.toList == str.toList) then
              R ⟨none, 0, 0⟩ 0 3 h_2
            else
              R s1 (IntKind.i64.wrap (n + 8)) 0 h_2
            )
          )
        )
      )
    )
  )
theorem E_ref03_Take (b : Sl) (h : Heap) (R : Sl → Int → Int → Heap → Prop) :
    VF Try.prog [] Try.f72 [.slice b.a b.n b.c] h [.one .sl, .one (.int .i64), .one (.int .i64)] R = S_ref03_Take b h R := by kernel_rfl
theorem A_ref03_Take {b : Sl} {h : Heap} {R : Sl → Int → Int → Heap → Prop} (hs : S_ref03_Take b h R) : C_ref03_Take b h R :=
  use_ Try.func72 (by kernel_rfl) (E_ref03_Take b h R) hs

/-- frame.Put -/
def S_frame_Put (b : Sl) (payload : Sl) (h : Heap) (R : Sl → Int → Heap → Prop) : Prop :=
  Let ((payload.n : Int) : Int) fun n =>
  (bif decide (n > 4096) then
    R ⟨none, 0, 0⟩ 4 h
  else
    Nneg 8 (
    Let (IntKind.u8.wrap (shiftV .shr .i64 n 8) : Int) fun h_ =>
    Let (IntKind.u8.wrap n : Int) fun l =>
    Alloc h (.cells #[.int .u8 h_, .int .u8 l, .int .u8 (IntKind.u8.wrap (255 - h_)), .int .u8 (IntKind.u8.wrap (255 - l))] 5) fun b1 h_1 =>
    App Try.prog 22 22 b ⟨some b1, 4, 4⟩ h_1 fun s h_2 =>
    App Try.prog 22 22 s payload h_2 fun s1 h_3 =>
    C_crc_Of payload h_3 fun (r : Int) h_4 =>
    C_crc_Bytes r h_4 fun (r1 : Sl) h_5 =>
    App Try.prog 22 22 s1 r1 h_5 fun s2 h_6 =>
    R s2 0 h_6
    )
  )
theorem E_frame_Put (b : Sl) (payload : Sl) (h : Heap) (R : Sl → Int → Heap → Prop) :
    VF Try.prog [] Try.f73 [.slice b.a b.n b.c, .slice payload.a payload.n payload.c] h [.one .sl, .one (.int .i64)] R = S_frame_Put b payload h R := by kernel_rfl
theorem A_frame_Put {b : Sl} {payload : Sl} {h : Heap} {R : Sl → Int → Heap → Prop} (hs : S_frame_Put b payload h R) : C_frame_Put b payload h R :=
  use_ Try.func73 (by kernel_rfl) (E_frame_Put b payload h R) hs

/-- kissinggateref03.Put -/
def S_ref03_Put (payload : Sl) (h : Heap) (R : Sl → Heap → Prop) : Prop :=
  Nz 256 (
  Nz 256 (
  Let (IntKind.u8.wrap (divV .quo .i64 (payload.n : Int) 256) : Int) fun h_ =>
  Let (IntKind.u8.wrap (divV .rem .i64 (payload.n : Int) 256) : Int) fun l =>
  Alloc h (.cells #[.int .u8 h_, .int .u8 l, .int .u8 (IntKind.u8.wrap (255 - h_)), .int .u8 (IntKind.u8.wrap (255 - l))] 5) fun b h_1 =>
  App Try.prog 22 22 ⟨some b, 4, 4⟩ payload h_1 fun s h_2 =>
  C_ref02_Of payload h_2 fun (r : Int) h_3 =>
  C_ref02_Bytes r h_3 fun (r1 : Sl) h_4 =>
  App Try.prog 22 22 s r1 h_4 fun s1 h_5 =>
  R s1 h_5
  )
  )
theorem E_ref03_Put (payload : Sl) (h : Heap) (R : Sl → Heap → Prop) :
    VF Try.prog [] Try.f74 [.slice payload.a payload.n payload.c] h [.one .sl] R = S_ref03_Put payload h R := by kernel_rfl
theorem A_ref03_Put {payload : Sl} {h : Heap} {R : Sl → Heap → Prop} (hs : S_ref03_Put payload h R) : C_ref03_Put payload h R :=
  use_ Try.func74 (by kernel_rfl) (E_ref03_Put payload h R) hs

/-- frame.Whole -/
def S_frame_Whole (b : Sl) (h : Heap) (R : Sl → Int → Heap → Prop) : Prop :=
  C_frame_Take b h fun (r : Sl) (r1 : Int) (r2 : Int) h_ =>
  (bif r2 == 0 then
    (bif decide (r1 < (b.n : Int)) then
      R ⟨none, 0, 0⟩ 2 h_
    else
      R r r2 h_
    )
  else
    R r r2 h_
  )
theorem E_frame_Whole (b : Sl) (h : Heap) (R : Sl → Int → Heap → Prop) :
    VF Try.prog [] Try.f91 [.slice b.a b.n b.c] h [.one .sl, .one (.int .i64)] R = S_frame_Whole b h R := by kernel_rfl
theorem A_frame_Whole {b : Sl} {h : Heap} {R : Sl → Int → Heap → Prop} (hs : S_frame_Whole b h R) : C_frame_Whole b h R :=
  use_ Try.func91 (by kernel_rfl) (E_frame_Whole b h R) hs

/-- frame.Take -/
def S_frame_Take (b : Sl) (h : Heap) (R : Sl → Int → Int → Heap → Prop) : Prop :=
  (bif decide ((b.n : Int) < 4) then
    R ⟨none, 0, 0⟩ 0 2 h
  else
    Ix b 0 1 fun e =>
    Ld (.int .u8) h e fun (x : Int) =>
    Nneg 8 (
    Ix b 1 1 fun e1 =>
    Ld (.int .u8) h e1 fun (x1 : Int) =>
    Let (bitV .or .i64 (shiftV .shl .i64 (IntKind.i64.wrap x) 8) (IntKind.i64.wrap x1) : Int) fun n =>
    Join [] (fun _ h_ =>
      Cut Try.prog 22 b (some (.int .i64 4)) (some (.int .i64 (IntKind.i64.wrap (4 + n)))) none fun s =>
      C_frame_Size n h_ fun (r : Int) h_1 =>
      Cut Try.prog 22 b (some (.int .i64 (IntKind.i64.wrap (4 + n)))) (some (.int .i64 r)) none fun s1 =>
      C_crc_Check s s1 h_1 fun (r1 : Bool) h_2 =>
      (bif !r1 then
        R ⟨none, 0, 0⟩ 0 3 h_2
      else
        C_bytes_Clone s h_2 fun (r2 : Sl) h_3 =>
        C_frame_Size n h_3 fun (r3 : Int) h_4 =>
        R r2 r3 0 h_4
      )
      ) fun J =>
    Ix b 0 1 fun e2 =>
    Ld (.int .u8) h e2 fun (x2 : Int) =>
    Ix b 2 1 fun e3 =>
    Ld (.int .u8) h e3 fun (x3 : Int) =>
    (bif (bitV .xor .u8 x2 x3) != 255 then
      R ⟨none, 0, 0⟩ 0 3 h
    else
      Ix b 1 1 fun e4 =>
      Ld (.int .u8) h e4 fun (x4 : Int) =>
      Ix b 3 1 fun e5 =>
      Ld (.int .u8) h e5 fun (x5 : Int) =>
      (bif (bitV .xor .u8 x4 x5) != 255 then
        R ⟨none, 0, 0⟩ 0 3 h
      else
        (bif decide (n > 4096) then
          R ⟨none, 0, 0⟩ 0 4 h
        else
          C_frame_Size n h fun (r4 : Int) h_5 =>
          (bif decide ((b.n : Int) < r4) then
            R ⟨none, 0, 0⟩ 0 2 h_5
          else
            J  h_5
          )
        )
      )
    )
    )
  )
theorem E_frame_Take (b : Sl) (h : Heap) (R : Sl → Int → Int → Heap → Prop) :
    VF Try.prog [(30, [])] Try.f105 [.slice b.a b.n b.c] h [.one .sl, .one (.int .i64), .one (.int .i64)] R = S_frame_Take b h R := by kernel_rfl
theorem A_frame_Take {b : Sl} {h : Heap} {R : Sl → Int → Int → Heap → Prop} (hs : S_frame_Take b h R) : C_frame_Take b h R :=
  use_ Try.func105 (by kernel_rfl) (E_frame_Take b h R) hs

end Go.Proofs.Ytnognoiaakiepaa
