/- Printed by a program: what each function asks of the heap, that this is the reading of its code, and what follows for a call. -/
import Derived.Test.YtmpekddpehhdnaaSC
import Derived.Test.YtmpekddpehhdnaaProg
set_option maxRecDepth 1000000
namespace Go.Proofs.Ytmpekddpehhdnaa
open Go

/-- twopc.New -/
def S_twopc_New (willing : Sl) (h : Heap) (R : Option Addr → Heap → Prop) : Prop :=
  (bif decide ((willing.n : Int) < 1) then
    R none h
  else
    (bif decide ((willing.n : Int) > 7) then
      R none h
    else
      Alloc h (.cells #[.int .i64 0, .bool false, .bool false, .slice none 0 0, .int .u64 0, .int .u64 0, .slice none 0 0] 137) fun p h_ =>
      Loop [.one (.int .i64)] (fun _ (x18 : Int) h_1 go =>
        (bif decide (x18 < (willing.n : Int)) then
          Ix willing x18 1 fun e =>
          Ld .bool h_1 e fun (x : Bool) =>
          Nn (some p) fun p1 =>
          Ld .sl h_1 (p1.add 3) fun (l : Sl) =>
          Alloc h_1 (.cells #[.int .i64 0, .bool false, .bool x] 133) fun b h_2 =>
          App Try.prog 134 134 l ⟨some b, 1, 1⟩ h_2 fun s h_3 =>
          Nn (some p) fun p2 =>
          St h_3 (p2.add 3) (.slice s.a s.n s.c) fun h_4 =>
          go (IntKind.i64.wrap (x18 + 1)) h_4
        else
          R (some p) h_1
        )
        ) (0, ()) h_
    )
  )
theorem E_twopc_New (willing : Sl) (h : Heap) (R : Option Addr → Heap → Prop) :
    VF Try.prog [(122, [(18, .one (.int .i64))])] Try.f23 [.slice willing.a willing.n willing.c] h [.one .ptr] R = S_twopc_New willing h R := by kernel_rfl
theorem A_twopc_New {willing : Sl} {h : Heap} {R : Option Addr → Heap → Prop} (hs : S_twopc_New willing h R) : C_twopc_New willing h R :=
  use_ Try.func23 (by kernel_rfl) (E_twopc_New willing h R) hs

/-- (*twopc.Deal).Flight -/
def S_twopc_Deal_Flight (d : Option Addr) (h : Heap) (R : Sl → Heap → Prop) : Prop :=
  (bif d.isNone then
    R ⟨none, 0, 0⟩ h
  else
    Nn d fun p =>
    Ld .sl h (p.add 6) fun (flight : Sl) =>
    C_slices_Clone_twopc_Message_twopc_Message flight h fun (r : Sl) h_ =>
    R r h_
  )
theorem E_twopc_Deal_Flight (d : Option Addr) (h : Heap) (R : Sl → Heap → Prop) :
    VF Try.prog [] Try.f27 [.pointer d] h [.one .sl] R = S_twopc_Deal_Flight d h R := by kernel_rfl
theorem A_twopc_Deal_Flight {d : Option Addr} {h : Heap} {R : Sl → Heap → Prop} (hs : S_twopc_Deal_Flight d h R) : C_twopc_Deal_Flight d h R :=
  use_ Try.func27 (by kernel_rfl) (E_twopc_Deal_Flight d h R) hs

/-- (*twopc.Deal).State -/
def S_twopc_Deal_State (d : Option Addr) (who : Int) (h : Heap) (R : Int → Heap → Prop) : Prop :=
  C_twopc_Deal_find d who h fun (r : Option Addr) h_ =>
  (bif !r.isNone then
    Nn r fun p =>
    Ld (.int .i64) h_ p fun (state : Int) =>
    R state h_
  else
    R 0 h_
  )
theorem E_twopc_Deal_State (d : Option Addr) (who : Int) (h : Heap) (R : Int → Heap → Prop) :
    VF Try.prog [] Try.f28 [.pointer d, .int .i64 who] h [.one (.int .i64)] R = S_twopc_Deal_State d who h R := by kernel_rfl
theorem A_twopc_Deal_State {d : Option Addr} {who : Int} {h : Heap} {R : Int → Heap → Prop} (hs : S_twopc_Deal_State d who h R) : C_twopc_Deal_State d who h R :=
  use_ Try.func28 (by kernel_rfl) (E_twopc_Deal_State d who h R) hs

/-- (*twopc.Deal).Up -/
def S_twopc_Deal_Up (d : Option Addr) (who : Int) (h : Heap) (R : Bool → Heap → Prop) : Prop :=
  C_twopc_Deal_find d who h fun (r : Option Addr) h_ =>
  (bif !r.isNone then
    Nn r fun p =>
    Ld .bool h_ (p.add 1) fun (down : Bool) =>
    R (!down) h_
  else
    R false h_
  )
theorem E_twopc_Deal_Up (d : Option Addr) (who : Int) (h : Heap) (R : Bool → Heap → Prop) :
    VF Try.prog [] Try.f29 [.pointer d, .int .i64 who] h [.one .bool] R = S_twopc_Deal_Up d who h R := by kernel_rfl
theorem A_twopc_Deal_Up {d : Option Addr} {who : Int} {h : Heap} {R : Bool → Heap → Prop} (hs : S_twopc_Deal_Up d who h R) : C_twopc_Deal_Up d who h R :=
  use_ Try.func29 (by kernel_rfl) (E_twopc_Deal_Up d who h R) hs

/-- (*twopc.Deal).Settled -/
def S_twopc_Deal_Settled (d : Option Addr) (h : Heap) (R : Bool → Heap → Prop) : Prop :=
  Alloc h (.cells #[.pointer d] 43) fun d1 h_ =>
  Ld .ptr h_ d1 fun (x : Option Addr) =>
  (bif x.isNone then
    R false h_
  else
    Ld .ptr h_ d1 fun (x1 : Option Addr) =>
    Nn x1 fun p =>
    Ld (.int .i64) h_ p fun (state : Int) =>
    (bif decide (state < 2) then
      R false h_
    else
      Ld .ptr h_ d1 fun (x2 : Option Addr) =>
      Nn x2 fun p1 =>
      Ld .sl h_ (p1.add 3) fun (l : Sl) =>
      C_slices_ContainsFunc_twopc_part_twopc_part l (.func (.func 76) #[] #[.pointer (some d1)]) h_ fun (r : Bool) h_1 =>
      R (!r) h_1
    )
  )
theorem E_twopc_Deal_Settled (d : Option Addr) (h : Heap) (R : Bool → Heap → Prop) :
    VF Try.prog [] Try.f30 [.pointer d] h [.one .bool] R = S_twopc_Deal_Settled d h R := by kernel_rfl
theorem A_twopc_Deal_Settled {d : Option Addr} {h : Heap} {R : Bool → Heap → Prop} (hs : S_twopc_Deal_Settled d h R) : C_twopc_Deal_Settled d h R :=
  use_ Try.func30 (by kernel_rfl) (E_twopc_Deal_Settled d h R) hs

/-- (*twopc.Deal).Start -/
def S_twopc_Deal_Start (d : Option Addr) (who : Int) (h : Heap) (R : Int → Heap → Prop) : Prop :=
  C_twopc_Deal_find d who h fun (r : Option Addr) h_ =>
  (bif d.isNone then
    R 1 h_
  else
    (bif r.isNone then
      R 6 h_
    else
      Nn r fun p =>
      Ld .bool h_ (p.add 1) fun (down : Bool) =>
      (bif !down then
        R 8 h_
      else
        Nn r fun p1 =>
        St h_ (p1.add 1) (.bool false) fun h_1 =>
        (bif who == (-1) then
          Nn r fun p2 =>
          Ld (.int .i64) h_1 p2 fun (state : Int) =>
          (bif state == 0 then
            Nn r fun p3 =>
            St h_1 p3 (.int .i64 3) fun h_2 =>
            R 0 h_2
          else
            R 0 h_1
          )
        else
          R 0 h_1
        )
      )
    )
  )
theorem E_twopc_Deal_Start (d : Option Addr) (who : Int) (h : Heap) (R : Int → Heap → Prop) :
    VF Try.prog [] Try.f31 [.pointer d, .int .i64 who] h [.one (.int .i64)] R = S_twopc_Deal_Start d who h R := by kernel_rfl
theorem A_twopc_Deal_Start {d : Option Addr} {who : Int} {h : Heap} {R : Int → Heap → Prop} (hs : S_twopc_Deal_Start d who h R) : C_twopc_Deal_Start d who h R :=
  use_ Try.func31 (by kernel_rfl) (E_twopc_Deal_Start d who h R) hs

/-- (*twopc.Deal).Begin -/
def S_twopc_Deal_Begin (d : Option Addr) (h : Heap) (R : Int → Heap → Prop) : Prop :=
  (bif d.isNone then
    R 1 h
  else
    Nn d fun p =>
    Ld .bool h (p.add 1) fun (down : Bool) =>
    (bif down then
      R 12 h
    else
      Nn d fun p1 =>
      Ld (.int .i64) h p1 fun (state : Int) =>
      (bif state == 0 then
        Nn d fun p2 =>
        Ld (.int .u64) h (p2.add 4) fun (votes : Int) =>
        C_twopc_Deal_tell d 1 votes h fun h_ =>
        R 0 h_
      else
        Nn d fun p3 =>
        Ld (.int .u64) h (p3.add 5) fun (acks : Int) =>
        C_twopc_Deal_outcome d acks h fun h_1 =>
        R 0 h_1
      )
    )
  )
theorem E_twopc_Deal_Begin (d : Option Addr) (h : Heap) (R : Int → Heap → Prop) :
    VF Try.prog [] Try.f32 [.pointer d] h [.one (.int .i64)] R = S_twopc_Deal_Begin d h R := by kernel_rfl
theorem A_twopc_Deal_Begin {d : Option Addr} {h : Heap} {R : Int → Heap → Prop} (hs : S_twopc_Deal_Begin d h R) : C_twopc_Deal_Begin d h R :=
  use_ Try.func32 (by kernel_rfl) (E_twopc_Deal_Begin d h R) hs

/-- (*twopc.Deal).Settle -/
def S_twopc_Deal_Settle (d : Option Addr) (most : Int) (h : Heap) (R : Int → Heap → Prop) : Prop :=
  Loop [.one (.int .i64)] (fun _ (n : Int) h_ go =>
    (bif !d.isNone then
      (bif decide (n < most) then
        Nn d fun p =>
        Ld .sl h_ (p.add 6) fun (flight : Sl) =>
        (bif decide ((flight.n : Int) > 0) then
          C_twopc_Deal_Deliver d 0 h_ fun (r : Int) h_1 =>
          Let (IntKind.i64.wrap (n + 1) : Int) fun n1 =>
          go n1 h_1
        else
          R n h_
        )
      else
        R n h_
      )
    else
      R n h_
    )
    ) (0, ()) h
theorem E_twopc_Deal_Settle (d : Option Addr) (most : Int) (h : Heap) (R : Int → Heap → Prop) :
    VF Try.prog [(28, [(5, .one (.int .i64))])] Try.f33 [.pointer d, .int .i64 most] h [.one (.int .i64)] R = S_twopc_Deal_Settle d most h R := by kernel_rfl
theorem A_twopc_Deal_Settle {d : Option Addr} {most : Int} {h : Heap} {R : Int → Heap → Prop} (hs : S_twopc_Deal_Settle d most h R) : C_twopc_Deal_Settle d most h R :=
  use_ Try.func33 (by kernel_rfl) (E_twopc_Deal_Settle d most h R) hs

/-- (*twopc.Deal).Double -/
def S_twopc_Deal_Double (d : Option Addr) (i : Int) (h : Heap) (R : Int → Heap → Prop) : Prop :=
  C_twopc_Deal_at d i h fun (r : Int) h_ =>
  (bif r == 0 then
    Nn d fun p =>
    Ld .sl h_ (p.add 6) fun (flight : Sl) =>
    Nn d fun p1 =>
    Ld .sl h_ (p1.add 6) fun (flight1 : Sl) =>
    Ix flight1 i 2 fun e =>
    Ld (.int .i64) h_ e fun (x_Kind : Int) =>
    Ld (.int .i64) h_ (e.add 1) fun (x_Who : Int) =>
    Alloc h_ (.cells #[.int .i64 x_Kind, .int .i64 x_Who] 58) fun b h_1 =>
    (Ld .sl h_1 (p.add 6) fun (flight2 : Sl) => (.slice flight2.a flight2.n flight2.c : Value) = .slice flight.a flight.n flight.c) ∧
    App Try.prog 51 51 flight ⟨some b, 1, 1⟩ h_1 fun s h_2 =>
    Nn d fun p2 =>
    St h_2 (p2.add 6) (.slice s.a s.n s.c) fun h_3 =>
    R r h_3
  else
    R r h_
  )
theorem E_twopc_Deal_Double (d : Option Addr) (i : Int) (h : Heap) (R : Int → Heap → Prop) :
    VF Try.prog [] Try.f34 [.pointer d, .int .i64 i] h [.one (.int .i64)] R = S_twopc_Deal_Double d i h R := by kernel_rfl
theorem A_twopc_Deal_Double {d : Option Addr} {i : Int} {h : Heap} {R : Int → Heap → Prop} (hs : S_twopc_Deal_Double d i h R) : C_twopc_Deal_Double d i h R :=
  use_ Try.func34 (by kernel_rfl) (E_twopc_Deal_Double d i h R) hs

/-- (*twopc.Deal).Deliver -/
def S_twopc_Deal_Deliver (d : Option Addr) (i : Int) (h : Heap) (R : Int → Heap → Prop) : Prop :=
  C_twopc_Deal_at d i h fun (r : Int) h_ =>
  (bif r != 0 then
    R r h_
  else
    Nn d fun p =>
    Ld .sl h_ (p.add 6) fun (flight : Sl) =>
    Ix flight i 2 fun e =>
    Ld (.int .i64) h_ e fun (x_Kind : Int) =>
    Ld (.int .i64) h_ (e.add 1) fun (x_Who : Int) =>
    Alloc h_ (.cells #[.int .i64 0, .int .i64 0] 58) fun m h_1 =>
    St h_1 m (.int .i64 x_Kind) fun h_2 =>
    St h_2 (m.add 1) (.int .i64 x_Who) fun h_3 =>
    C_twopc_Deal_Drop d i h_3 fun (r1 : Int) h_4 =>
    Ld (.int .i64) h_4 m fun (Kind : Int) =>
    (bif Kind == 1 then
      Nn d fun p1 =>
      Ld .sl h_4 (p1.add 3) fun (l : Sl) =>
      Ld (.int .i64) h_4 (m.add 1) fun (Who : Int) =>
      Ix l Who 3 fun e1 =>
      Ld .bool h_4 (e1.add 1) fun (down : Bool) =>
      (bif down then
        R 12 h_4
      else
        Ld (.int .i64) h_4 m fun (Kind1 : Int) =>
        (bif Kind1 == 1 then
          Ld (.int .i64) h_4 (m.add 1) fun (Who1 : Int) =>
          C_twopc_Deal_asked d Who1 h_4 fun h_5 =>
          R 0 h_5
        else
          Ld (.int .i64) h_4 (m.add 1) fun (Who2 : Int) =>
          Ld (.int .i64) h_4 m fun (Kind2 : Int) =>
          C_twopc_Deal_told d Who2 Kind2 h_4 fun h_6 =>
          R 0 h_6
        )
      )
    else
      Ld (.int .i64) h_4 m fun (Kind3 : Int) =>
      (bif Kind3 == 4 then
        Nn d fun p2 =>
        Ld .sl h_4 (p2.add 3) fun (l1 : Sl) =>
        Ld (.int .i64) h_4 (m.add 1) fun (Who3 : Int) =>
        Ix l1 Who3 3 fun e2 =>
        Ld .bool h_4 (e2.add 1) fun (down1 : Bool) =>
        (bif down1 then
          R 12 h_4
        else
          Ld (.int .i64) h_4 m fun (Kind4 : Int) =>
          (bif Kind4 == 1 then
            Ld (.int .i64) h_4 (m.add 1) fun (Who4 : Int) =>
            C_twopc_Deal_asked d Who4 h_4 fun h_7 =>
            R 0 h_7
          else
            Ld (.int .i64) h_4 (m.add 1) fun (Who5 : Int) =>
            Ld (.int .i64) h_4 m fun (Kind5 : Int) =>
            C_twopc_Deal_told d Who5 Kind5 h_4 fun h_8 =>
            R 0 h_8
          )
        )
      else
        Ld (.int .i64) h_4 m fun (Kind6 : Int) =>
        (bif Kind6 == 5 then
          Nn d fun p3 =>
          Ld .sl h_4 (p3.add 3) fun (l2 : Sl) =>
          Ld (.int .i64) h_4 (m.add 1) fun (Who6 : Int) =>
          Ix l2 Who6 3 fun e3 =>
          Ld .bool h_4 (e3.add 1) fun (down2 : Bool) =>
          (bif down2 then
            R 12 h_4
          else
            Ld (.int .i64) h_4 m fun (Kind7 : Int) =>
            (bif Kind7 == 1 then
              Ld (.int .i64) h_4 (m.add 1) fun (Who7 : Int) =>
              C_twopc_Deal_asked d Who7 h_4 fun h_9 =>
              R 0 h_9
            else
              Ld (.int .i64) h_4 (m.add 1) fun (Who8 : Int) =>
              Ld (.int .i64) h_4 m fun (Kind8 : Int) =>
              C_twopc_Deal_told d Who8 Kind8 h_4 fun h_10 =>
              R 0 h_10
            )
          )
        else
          Nn d fun p4 =>
          Ld .bool h_4 (p4.add 1) fun (down3 : Bool) =>
          (bif down3 then
            R 12 h_4
          else
            Ld (.int .i64) h_4 (m.add 1) fun (Who9 : Int) =>
            Ld (.int .i64) h_4 m fun (Kind9 : Int) =>
            C_twopc_Deal_voted d Who9 Kind9 h_4 fun h_11 =>
            R 0 h_11
          )
        )
      )
    )
  )
theorem E_twopc_Deal_Deliver (d : Option Addr) (i : Int) (h : Heap) (R : Int → Heap → Prop) :
    VF Try.prog [] Try.f35 [.pointer d, .int .i64 i] h [.one (.int .i64)] R = S_twopc_Deal_Deliver d i h R := by kernel_rfl
theorem A_twopc_Deal_Deliver {d : Option Addr} {i : Int} {h : Heap} {R : Int → Heap → Prop} (hs : S_twopc_Deal_Deliver d i h R) : C_twopc_Deal_Deliver d i h R :=
  use_ Try.func35 (by kernel_rfl) (E_twopc_Deal_Deliver d i h R) hs

/-- (*twopc.Deal).GiveUp -/
def S_twopc_Deal_GiveUp (d : Option Addr) (h : Heap) (R : Int → Heap → Prop) : Prop :=
  (bif d.isNone then
    R 1 h
  else
    Nn d fun p =>
    Ld .bool h (p.add 1) fun (down : Bool) =>
    (bif down then
      R 12 h
    else
      Nn d fun p1 =>
      Ld (.int .i64) h p1 fun (state : Int) =>
      (bif state != 0 then
        R 8 h
      else
        C_twopc_Deal_notes d 3 h fun h_ =>
        R 0 h_
      )
    )
  )
theorem E_twopc_Deal_GiveUp (d : Option Addr) (h : Heap) (R : Int → Heap → Prop) :
    VF Try.prog [] Try.f63 [.pointer d] h [.one (.int .i64)] R = S_twopc_Deal_GiveUp d h R := by kernel_rfl
theorem A_twopc_Deal_GiveUp {d : Option Addr} {h : Heap} {R : Int → Heap → Prop} (hs : S_twopc_Deal_GiveUp d h R) : C_twopc_Deal_GiveUp d h R :=
  use_ Try.func63 (by kernel_rfl) (E_twopc_Deal_GiveUp d h R) hs

/-- (*twopc.Deal).Crash -/
def S_twopc_Deal_Crash (d : Option Addr) (who : Int) (h : Heap) (R : Int → Heap → Prop) : Prop :=
  C_twopc_Deal_find d who h fun (r : Option Addr) h_ =>
  (bif d.isNone then
    R 1 h_
  else
    (bif r.isNone then
      R 6 h_
    else
      Nn r fun p =>
      Ld .bool h_ (p.add 1) fun (down : Bool) =>
      (bif down then
        R 12 h_
      else
        Nn r fun p1 =>
        St h_ (p1.add 1) (.bool true) fun h_1 =>
        (bif who == (-1) then
          Nn d fun p2 =>
          St h_1 (p2.add 4) (.int .u64 0) fun h_2 =>
          Nn d fun p3 =>
          St h_2 (p3.add 5) (.int .u64 0) fun h_3 =>
          R 0 h_3
        else
          R 0 h_1
        )
      )
    )
  )
theorem E_twopc_Deal_Crash (d : Option Addr) (who : Int) (h : Heap) (R : Int → Heap → Prop) :
    VF Try.prog [] Try.f64 [.pointer d, .int .i64 who] h [.one (.int .i64)] R = S_twopc_Deal_Crash d who h R := by kernel_rfl
theorem A_twopc_Deal_Crash {d : Option Addr} {who : Int} {h : Heap} {R : Int → Heap → Prop} (hs : S_twopc_Deal_Crash d who h R) : C_twopc_Deal_Crash d who h R :=
  use_ Try.func64 (by kernel_rfl) (E_twopc_Deal_Crash d who h R) hs

/-- (*twopc.Deal).Drop -/
def S_twopc_Deal_Drop (d : Option Addr) (i : Int) (h : Heap) (R : Int → Heap → Prop) : Prop :=
  C_twopc_Deal_at d i h fun (r : Int) h_ =>
  (bif r == 0 then
    Nn d fun p =>
    Ld .sl h_ (p.add 6) fun (flight : Sl) =>
    C_slices_Delete_twopc_Message_twopc_Message flight i (IntKind.i64.wrap (i + 1)) h_ fun (r1 : Sl) h_1 =>
    Nn d fun p1 =>
    St h_1 (p1.add 6) (.slice r1.a r1.n r1.c) fun h_2 =>
    R r h_2
  else
    R r h_
  )
theorem E_twopc_Deal_Drop (d : Option Addr) (i : Int) (h : Heap) (R : Int → Heap → Prop) :
    VF Try.prog [] Try.f65 [.pointer d, .int .i64 i] h [.one (.int .i64)] R = S_twopc_Deal_Drop d i h R := by kernel_rfl
theorem A_twopc_Deal_Drop {d : Option Addr} {i : Int} {h : Heap} {R : Int → Heap → Prop} (hs : S_twopc_Deal_Drop d i h R) : C_twopc_Deal_Drop d i h R :=
  use_ Try.func65 (by kernel_rfl) (E_twopc_Deal_Drop d i h R) hs

/-- slices.Clone[[]twopc.Message,twopc.Message] -/
def S_slices_Clone_twopc_Message_twopc_Message (s : Sl) (h : Heap) (R : Sl → Heap → Prop) : Prop :=
  (bif s.a.isNone then
    R ⟨none, 0, 0⟩ h
  else
    Alloc h (.cells #[] 58) fun b h_ =>
    App Try.prog 51 51 ⟨some b, 0, 0⟩ s h_ fun s1 h_1 =>
    R s1 h_1
  )
theorem E_slices_Clone_twopc_Message_twopc_Message (s : Sl) (h : Heap) (R : Sl → Heap → Prop) :
    VF Try.prog [] Try.f73 [.slice s.a s.n s.c] h [.one .sl] R = S_slices_Clone_twopc_Message_twopc_Message s h R := by kernel_rfl
theorem A_slices_Clone_twopc_Message_twopc_Message {s : Sl} {h : Heap} {R : Sl → Heap → Prop} (hs : S_slices_Clone_twopc_Message_twopc_Message s h R) : C_slices_Clone_twopc_Message_twopc_Message s h R :=
  use_ Try.func73 (by kernel_rfl) (E_slices_Clone_twopc_Message_twopc_Message s h R) hs

/-- (*twopc.Deal).find -/
def S_twopc_Deal_find (d : Option Addr) (who : Int) (h : Heap) (R : Option Addr → Heap → Prop) : Prop :=
  (bif d.isNone then
    R none h
  else
    (bif decide (who < (-1)) then
      R none h
    else
      Nn d fun p =>
      Ld .sl h (p.add 3) fun (l : Sl) =>
      (bif decide (who ≥ (l.n : Int)) then
        R none h
      else
        (bif who == (-1) then
          Nn d fun p1 =>
          R (some p1) h
        else
          Nn d fun p2 =>
          Ld .sl h (p2.add 3) fun (l1 : Sl) =>
          Ix l1 who 3 fun e =>
          R (some e) h
        )
      )
    )
  )
theorem E_twopc_Deal_find (d : Option Addr) (who : Int) (h : Heap) (R : Option Addr → Heap → Prop) :
    VF Try.prog [] Try.f74 [.pointer d, .int .i64 who] h [.one .ptr] R = S_twopc_Deal_find d who h R := by kernel_rfl
theorem A_twopc_Deal_find {d : Option Addr} {who : Int} {h : Heap} {R : Option Addr → Heap → Prop} (hs : S_twopc_Deal_find d who h R) : C_twopc_Deal_find d who h R :=
  use_ Try.func74 (by kernel_rfl) (E_twopc_Deal_find d who h R) hs

/-- slices.ContainsFunc[[]twopc.part,twopc.part] -/
def S_slices_ContainsFunc_twopc_part_twopc_part (s : Sl) (cap : Option Addr) (h : Heap) (R : Bool → Heap → Prop) : Prop :=
  C_slices_IndexFunc_twopc_part_twopc_part s (.func (.func 76) #[] #[.pointer cap]) h fun (r : Int) h_ =>
  R (decide (r ≥ 0)) h_
theorem E_slices_ContainsFunc_twopc_part_twopc_part (s : Sl) (cap : Option Addr) (h : Heap) (R : Bool → Heap → Prop) :
    VF Try.prog [] Try.f75 [.slice s.a s.n s.c, .func (.func 76) #[] #[.pointer cap]] h [.one .bool] R = S_slices_ContainsFunc_twopc_part_twopc_part s cap h R := by kernel_rfl
theorem A_slices_ContainsFunc_twopc_part_twopc_part {s : Sl} {cap : Option Addr} {h : Heap} {R : Bool → Heap → Prop} (hs : S_slices_ContainsFunc_twopc_part_twopc_part s cap h R) : C_slices_ContainsFunc_twopc_part_twopc_part s (.func (.func 76) #[] #[.pointer cap]) h R :=
  use_ Try.func75 (by kernel_rfl) (E_slices_ContainsFunc_twopc_part_twopc_part s cap h R) hs

/-- (*twopc.Deal).Settled$1 -/
def S_twopc_Deal_Settled_1 (x : KL [.int .i64, .bool, .bool]) (fv : Addr) (h : Heap) (R : Bool → Heap → Prop) : Prop :=
  Alloc h (.cells #[.int .i64 x.1, .bool x.2.1, .bool x.2.2.1] 133) fun x1 h_ =>
  Ld (.int .i64) h_ x1 fun (state : Int) =>
  Ld .ptr h_ fv fun (x2 : Option Addr) =>
  Nn x2 fun p =>
  Ld (.int .i64) h_ p fun (state1 : Int) =>
  R (state != state1) h_
theorem E_twopc_Deal_Settled_1 (x : KL [.int .i64, .bool, .bool]) (fv : Addr) (h : Heap) (R : Bool → Heap → Prop) :
    VF Try.prog [] Try.f76 [.agg ⟨KL.vals [.int .i64, .bool, .bool] x⟩, .pointer (some fv)] h [.one .bool] R = S_twopc_Deal_Settled_1 x fv h R := by kernel_rfl
theorem A_twopc_Deal_Settled_1 {x : KL [.int .i64, .bool, .bool]} {fv : Addr} {h : Heap} {R : Bool → Heap → Prop} (hs : S_twopc_Deal_Settled_1 x fv h R) : C_twopc_Deal_Settled_1 x (some fv) h R :=
  use_ Try.func76 (by kernel_rfl) (E_twopc_Deal_Settled_1 x fv h R) hs

/-- (*twopc.Deal).tell -/
def S_twopc_Deal_tell (d : Option Addr) (kind : Int) (but : Int) (h : Heap) (R : Heap → Prop) : Prop :=
  Nn d fun p =>
  Ld .sl h (p.add 3) fun (l : Sl) =>
  Loop [.one (.int .i64)] (fun _ (x12 : Int) h_ go =>
    (bif decide (x12 < (l.n : Int)) then
      Nneg (IntKind.u64.wrap x12) (
      (bif (bitV .and .u64 (shiftV .shr .u64 but (IntKind.u64.wrap x12)) 1) == 0 then
        C_twopc_Deal_send d kind x12 h_ fun h_1 =>
        go (IntKind.i64.wrap (x12 + 1)) h_1
      else
        go (IntKind.i64.wrap (x12 + 1)) h_
      )
      )
    else
      R h_
    )
    ) (0, ()) h
theorem E_twopc_Deal_tell (d : Option Addr) (kind : Int) (but : Int) (h : Heap) (R : Heap → Prop) :
    VF Try.prog [(6, [(12, .one (.int .i64))])] Try.f77 [.pointer d, .int .i64 kind, .int .u64 but] h [] R = S_twopc_Deal_tell d kind but h R := by kernel_rfl
theorem A_twopc_Deal_tell {d : Option Addr} {kind : Int} {but : Int} {h : Heap} {R : Heap → Prop} (hs : S_twopc_Deal_tell d kind but h R) : C_twopc_Deal_tell d kind but h R :=
  use_ Try.func77 (by kernel_rfl) (E_twopc_Deal_tell d kind but h R) hs

/-- (*twopc.Deal).outcome -/
def S_twopc_Deal_outcome (d : Option Addr) (but : Int) (h : Heap) (R : Heap → Prop) : Prop :=
  Nn d fun p =>
  Ld (.int .i64) h p fun (state : Int) =>
  (bif state == 2 then
    C_twopc_Deal_tell d 4 but h fun h_ =>
    R h_
  else
    C_twopc_Deal_tell d 5 but h fun h_1 =>
    R h_1
  )
theorem E_twopc_Deal_outcome (d : Option Addr) (but : Int) (h : Heap) (R : Heap → Prop) :
    VF Try.prog [] Try.f78 [.pointer d, .int .u64 but] h [] R = S_twopc_Deal_outcome d but h R := by kernel_rfl
theorem A_twopc_Deal_outcome {d : Option Addr} {but : Int} {h : Heap} {R : Heap → Prop} (hs : S_twopc_Deal_outcome d but h R) : C_twopc_Deal_outcome d but h R :=
  use_ Try.func78 (by kernel_rfl) (E_twopc_Deal_outcome d but h R) hs

/-- (*twopc.Deal).at -/
def S_twopc_Deal_at (d : Option Addr) (i : Int) (h : Heap) (R : Int → Heap → Prop) : Prop :=
  (bif d.isNone then
    R 1 h
  else
    (bif decide (i < 0) then
      R 6 h
    else
      Nn d fun p =>
      Ld .sl h (p.add 6) fun (flight : Sl) =>
      (bif decide (i ≥ (flight.n : Int)) then
        R 6 h
      else
        R 0 h
      )
    )
  )
theorem E_twopc_Deal_at (d : Option Addr) (i : Int) (h : Heap) (R : Int → Heap → Prop) :
    VF Try.prog [] Try.f79 [.pointer d, .int .i64 i] h [.one (.int .i64)] R = S_twopc_Deal_at d i h R := by kernel_rfl
theorem A_twopc_Deal_at {d : Option Addr} {i : Int} {h : Heap} {R : Int → Heap → Prop} (hs : S_twopc_Deal_at d i h R) : C_twopc_Deal_at d i h R :=
  use_ Try.func79 (by kernel_rfl) (E_twopc_Deal_at d i h R) hs

/-- (*twopc.Deal).asked -/
def S_twopc_Deal_asked (d : Option Addr) (i : Int) (h : Heap) (R : Heap → Prop) : Prop :=
  Nn d fun p =>
  Ld .sl h (p.add 3) fun (l : Sl) =>
  Ix l i 3 fun e =>
  Nn (some e) fun p1 =>
  Ld (.int .i64) h p1 fun (state : Int) =>
  Join [] (fun _ h_ =>
    Nn (some e) fun p2 =>
    Ld (.int .i64) h_ p2 fun (state1 : Int) =>
    (bif state1 == 3 then
      C_twopc_Deal_send d 3 i h_ fun h_1 =>
      R h_1
    else
      C_twopc_Deal_send d 2 i h_ fun h_2 =>
      R h_2
    )
    ) fun J =>
  (bif state == 0 then
    Nn (some e) fun p3 =>
    St h p3 (.int .i64 3) fun h_3 =>
    Nn (some e) fun p4 =>
    Ld .bool h_3 (p4.add 2) fun (willing : Bool) =>
    (bif willing then
      Nn (some e) fun p5 =>
      St h_3 p5 (.int .i64 1) fun h_4 =>
      J  h_4
    else
      J  h_3
    )
  else
    J  h
  )
theorem E_twopc_Deal_asked (d : Option Addr) (i : Int) (h : Heap) (R : Heap → Prop) :
    VF Try.prog [(13, [])] Try.f80 [.pointer d, .int .i64 i] h [] R = S_twopc_Deal_asked d i h R := by kernel_rfl
theorem A_twopc_Deal_asked {d : Option Addr} {i : Int} {h : Heap} {R : Heap → Prop} (hs : S_twopc_Deal_asked d i h R) : C_twopc_Deal_asked d i h R :=
  use_ Try.func80 (by kernel_rfl) (E_twopc_Deal_asked d i h R) hs

/-- (*twopc.Deal).told -/
def S_twopc_Deal_told (d : Option Addr) (i : Int) (kind : Int) (h : Heap) (R : Heap → Prop) : Prop :=
  Nn d fun p =>
  Ld .sl h (p.add 3) fun (l : Sl) =>
  Ix l i 3 fun e =>
  (bif kind == 4 then
    Nn (some e) fun p1 =>
    Ld (.int .i64) h p1 fun (state : Int) =>
    (bif state == 1 then
      Nn (some e) fun p2 =>
      St h p2 (.int .i64 2) fun h_ =>
      C_twopc_Deal_send d 6 i h_ fun h_1 =>
      R h_1
    else
      (bif kind == 5 then
        Nn (some e) fun p3 =>
        Ld (.int .i64) h p3 fun (state1 : Int) =>
        (bif state1 == 0 then
          Nn (some e) fun p4 =>
          St h p4 (.int .i64 3) fun h_2 =>
          C_twopc_Deal_send d 6 i h_2 fun h_3 =>
          R h_3
        else
          Nn (some e) fun p5 =>
          Ld (.int .i64) h p5 fun (state2 : Int) =>
          (bif state2 == 1 then
            Nn (some e) fun p6 =>
            St h p6 (.int .i64 3) fun h_4 =>
            C_twopc_Deal_send d 6 i h_4 fun h_5 =>
            R h_5
          else
            C_twopc_Deal_send d 6 i h fun h_6 =>
            R h_6
          )
        )
      else
        C_twopc_Deal_send d 6 i h fun h_7 =>
        R h_7
      )
    )
  else
    (bif kind == 5 then
      Nn (some e) fun p7 =>
      Ld (.int .i64) h p7 fun (state3 : Int) =>
      (bif state3 == 0 then
        Nn (some e) fun p8 =>
        St h p8 (.int .i64 3) fun h_8 =>
        C_twopc_Deal_send d 6 i h_8 fun h_9 =>
        R h_9
      else
        Nn (some e) fun p9 =>
        Ld (.int .i64) h p9 fun (state4 : Int) =>
        (bif state4 == 1 then
          Nn (some e) fun p10 =>
          St h p10 (.int .i64 3) fun h_10 =>
          C_twopc_Deal_send d 6 i h_10 fun h_11 =>
          R h_11
        else
          C_twopc_Deal_send d 6 i h fun h_12 =>
          R h_12
        )
      )
    else
      C_twopc_Deal_send d 6 i h fun h_13 =>
      R h_13
    )
  )
theorem E_twopc_Deal_told (d : Option Addr) (i : Int) (kind : Int) (h : Heap) (R : Heap → Prop) :
    VF Try.prog [] Try.f81 [.pointer d, .int .i64 i, .int .i64 kind] h [] R = S_twopc_Deal_told d i kind h R := by kernel_rfl
theorem A_twopc_Deal_told {d : Option Addr} {i : Int} {kind : Int} {h : Heap} {R : Heap → Prop} (hs : S_twopc_Deal_told d i kind h R) : C_twopc_Deal_told d i kind h R :=
  use_ Try.func81 (by kernel_rfl) (E_twopc_Deal_told d i kind h R) hs

/-- (*twopc.Deal).voted -/
def S_twopc_Deal_voted (d : Option Addr) (i : Int) (kind : Int) (h : Heap) (R : Heap → Prop) : Prop :=
  Nn d fun p =>
  Ld (.int .i64) h p fun (state : Int) =>
  Let (state == 0 : Bool) fun open_ =>
  (bif kind == 6 then
    Nn d fun p1 =>
    Ld (.int .u64) h (p1.add 5) fun (acks : Int) =>
    Nneg (IntKind.u64.wrap i) (
    Nn d fun p2 =>
    St h (p2.add 5) (.int .u64 (bitV .or .u64 acks (shiftV .shl .u64 1 (IntKind.u64.wrap i)))) fun h_ =>
    R h_
    )
  else
    (bif kind == 3 then
      (bif open_ then
        C_twopc_Deal_notes d 3 h fun h_1 =>
        R h_1
      else
        (bif kind == 2 then
          Nn d fun p3 =>
          Ld (.int .u64) h (p3.add 4) fun (votes : Int) =>
          Nneg (IntKind.u64.wrap i) (
          Nn d fun p4 =>
          St h (p4.add 4) (.int .u64 (bitV .or .u64 votes (shiftV .shl .u64 1 (IntKind.u64.wrap i)))) fun h_2 =>
          (bif open_ then
            Nn d fun p5 =>
            Ld (.int .u64) h_2 (p5.add 4) fun (votes1 : Int) =>
            Nn d fun p6 =>
            Ld .sl h_2 (p6.add 3) fun (l : Sl) =>
            C_math_bits_OnesCount votes1 h_2 fun (r : Int) h_3 =>
            (Ld .sl h_3 (p6.add 3) fun (l1 : Sl) => (.slice l1.a l1.n l1.c : Value) = .slice l.a l.n l.c) ∧
            (bif r == (l.n : Int) then
              C_twopc_Deal_notes d 2 h_3 fun h_4 =>
              R h_4
            else
              R h_3
            )
          else
            R h_2
          )
          )
        else
          R h
        )
      )
    else
      (bif kind == 2 then
        Nn d fun p7 =>
        Ld (.int .u64) h (p7.add 4) fun (votes2 : Int) =>
        Nneg (IntKind.u64.wrap i) (
        Nn d fun p8 =>
        St h (p8.add 4) (.int .u64 (bitV .or .u64 votes2 (shiftV .shl .u64 1 (IntKind.u64.wrap i)))) fun h_5 =>
        (bif open_ then
          Nn d fun p9 =>
          Ld (.int .u64) h_5 (p9.add 4) fun (votes3 : Int) =>
          Nn d fun p10 =>
          Ld .sl h_5 (p10.add 3) fun (l2 : Sl) =>
          C_math_bits_OnesCount votes3 h_5 fun (r1 : Int) h_6 =>
          (Ld .sl h_6 (p10.add 3) fun (l3 : Sl) => (.slice l3.a l3.n l3.c : Value) = .slice l2.a l2.n l2.c) ∧
          (bif r1 == (l2.n : Int) then
            C_twopc_Deal_notes d 2 h_6 fun h_7 =>
            R h_7
          else
            R h_6
          )
        else
          R h_5
        )
        )
      else
        R h
      )
    )
  )
theorem E_twopc_Deal_voted (d : Option Addr) (i : Int) (kind : Int) (h : Heap) (R : Heap → Prop) :
    VF Try.prog [] Try.f82 [.pointer d, .int .i64 i, .int .i64 kind] h [] R = S_twopc_Deal_voted d i kind h R := by kernel_rfl
theorem A_twopc_Deal_voted {d : Option Addr} {i : Int} {kind : Int} {h : Heap} {R : Heap → Prop} (hs : S_twopc_Deal_voted d i kind h R) : C_twopc_Deal_voted d i kind h R :=
  use_ Try.func82 (by kernel_rfl) (E_twopc_Deal_voted d i kind h R) hs

/-- (*twopc.Deal).notes -/
def S_twopc_Deal_notes (d : Option Addr) (state : Int) (h : Heap) (R : Heap → Prop) : Prop :=
  Nn d fun p =>
  St h p (.int .i64 state) fun h_ =>
  C_twopc_Deal_outcome d 0 h_ fun h_1 =>
  R h_1
theorem E_twopc_Deal_notes (d : Option Addr) (state : Int) (h : Heap) (R : Heap → Prop) :
    VF Try.prog [] Try.f109 [.pointer d, .int .i64 state] h [] R = S_twopc_Deal_notes d state h R := by kernel_rfl
theorem A_twopc_Deal_notes {d : Option Addr} {state : Int} {h : Heap} {R : Heap → Prop} (hs : S_twopc_Deal_notes d state h R) : C_twopc_Deal_notes d state h R :=
  use_ Try.func109 (by kernel_rfl) (E_twopc_Deal_notes d state h R) hs

/-- slices.Delete[[]twopc.Message,twopc.Message] -/
def S_slices_Delete_twopc_Message_twopc_Message (s : Sl) (i : Int) (j : Int) (h : Heap) (R : Sl → Heap → Prop) : Prop :=
  Cut Try.prog 51 s (some (.int .i64 i)) (some (.int .i64 j)) (some (.int .i64 (s.n : Int))) fun s1 =>
  (bif i == j then
    R s h
  else
    Let ((s.n : Int) : Int) fun oldlen =>
    Cut Try.prog 51 s none (some (.int .i64 i)) none fun s2 =>
    Cut Try.prog 51 s (some (.int .i64 j)) none none fun s3 =>
    App Try.prog 51 51 s2 s3 h fun s4 h_ =>
    Cut Try.prog 51 s4 (some (.int .i64 (s4.n : Int))) (some (.int .i64 oldlen)) none fun s5 =>
    OpT Try.prog (Builtin.clear_ #[51] 0 #[.slice s5.a s5.n s5.c]) h_ [] fun h_1 =>
    R s4 h_1
  )
theorem E_slices_Delete_twopc_Message_twopc_Message (s : Sl) (i : Int) (j : Int) (h : Heap) (R : Sl → Heap → Prop) :
    VF Try.prog [] Try.f110 [.slice s.a s.n s.c, .int .i64 i, .int .i64 j] h [.one .sl] R = S_slices_Delete_twopc_Message_twopc_Message s i j h R := by kernel_rfl
theorem A_slices_Delete_twopc_Message_twopc_Message {s : Sl} {i : Int} {j : Int} {h : Heap} {R : Sl → Heap → Prop} (hs : S_slices_Delete_twopc_Message_twopc_Message s i j h R) : C_slices_Delete_twopc_Message_twopc_Message s i j h R :=
  use_ Try.func110 (by kernel_rfl) (E_slices_Delete_twopc_Message_twopc_Message s i j h R) hs

/-- slices.IndexFunc[[]twopc.part,twopc.part] -/
def S_slices_IndexFunc_twopc_part_twopc_part (s : Sl) (cap : Option Addr) (h : Heap) (R : Int → Heap → Prop) : Prop :=
  Loop [.one (.int .i64)] (fun _ (x8 : Int) h_ go =>
    (bif decide (x8 < (s.n : Int)) then
      Ix s x8 3 fun e =>
      Ld (.int .i64) h_ e fun (x_state : Int) =>
      Ld .bool h_ (e.add 1) fun (x_down : Bool) =>
      Ld .bool h_ (e.add 2) fun (x_willing : Bool) =>
      C_twopc_Deal_Settled_1 (x_state, x_down, x_willing, ()) cap h_ fun (r : Bool) h_1 =>
      (bif r then
        R x8 h_1
      else
        go (IntKind.i64.wrap (x8 + 1)) h_1
      )
    else
      R (-1) h_
    )
    ) (0, ()) h
theorem E_slices_IndexFunc_twopc_part_twopc_part (s : Sl) (cap : Option Addr) (h : Heap) (R : Int → Heap → Prop) :
    VF Try.prog [(26, [(8, .one (.int .i64))])] Try.f115 [.slice s.a s.n s.c, .func (.func 76) #[] #[.pointer cap]] h [.one (.int .i64)] R = S_slices_IndexFunc_twopc_part_twopc_part s cap h R := by kernel_rfl
theorem A_slices_IndexFunc_twopc_part_twopc_part {s : Sl} {cap : Option Addr} {h : Heap} {R : Int → Heap → Prop} (hs : S_slices_IndexFunc_twopc_part_twopc_part s cap h R) : C_slices_IndexFunc_twopc_part_twopc_part s (.func (.func 76) #[] #[.pointer cap]) h R :=
  use_ Try.func115 (by kernel_rfl) (E_slices_IndexFunc_twopc_part_twopc_part s cap h R) hs

/-- (*twopc.Deal).send -/
def S_twopc_Deal_send (d : Option Addr) (kind : Int) (who : Int) (h : Heap) (R : Heap → Prop) : Prop :=
  Nn d fun p =>
  Ld .sl h (p.add 6) fun (flight : Sl) =>
  Alloc h (.cells #[.int .i64 kind, .int .i64 who] 58) fun b h_ =>
  App Try.prog 51 51 flight ⟨some b, 1, 1⟩ h_ fun s h_1 =>
  Nn d fun p1 =>
  St h_1 (p1.add 6) (.slice s.a s.n s.c) fun h_2 =>
  R h_2
theorem E_twopc_Deal_send (d : Option Addr) (kind : Int) (who : Int) (h : Heap) (R : Heap → Prop) :
    VF Try.prog [] Try.f116 [.pointer d, .int .i64 kind, .int .i64 who] h [] R = S_twopc_Deal_send d kind who h R := by kernel_rfl
theorem A_twopc_Deal_send {d : Option Addr} {kind : Int} {who : Int} {h : Heap} {R : Heap → Prop} (hs : S_twopc_Deal_send d kind who h R) : C_twopc_Deal_send d kind who h R :=
  use_ Try.func116 (by kernel_rfl) (E_twopc_Deal_send d kind who h R) hs

/-- math.bits.OnesCount -/
def S_math_bits_OnesCount (x : Int) (h : Heap) (R : Int → Heap → Prop) : Prop :=
  C_math_bits_OnesCount64 x h fun (r : Int) h_ =>
  R r h_
theorem E_math_bits_OnesCount (x : Int) (h : Heap) (R : Int → Heap → Prop) :
    VF Try.prog [] Try.f117 [.int .u64 x] h [.one (.int .i64)] R = S_math_bits_OnesCount x h R := by kernel_rfl
theorem A_math_bits_OnesCount {x : Int} {h : Heap} {R : Int → Heap → Prop} (hs : S_math_bits_OnesCount x h R) : C_math_bits_OnesCount x h R :=
  use_ Try.func117 (by kernel_rfl) (E_math_bits_OnesCount x h R) hs

/-- math.bits.OnesCount64 -/
def S_math_bits_OnesCount64 (x : Int) (h : Heap) (R : Int → Heap → Prop) : Prop :=
  Nneg 1 (
  Let (IntKind.u64.wrap ((bitV .and .u64 (shiftV .shr .u64 x 1) 6148914691236517205) + (bitV .and .u64 x 6148914691236517205)) : Int) fun x1 =>
  Nneg 2 (
  Let (IntKind.u64.wrap ((bitV .and .u64 (shiftV .shr .u64 x1 2) 3689348814741910323) + (bitV .and .u64 x1 3689348814741910323)) : Int) fun x2 =>
  Nneg 4 (
  Let (bitV .and .u64 (IntKind.u64.wrap ((shiftV .shr .u64 x2 4) + x2)) 1085102592571150095 : Int) fun x3 =>
  Nneg 8 (
  Let (IntKind.u64.wrap (x3 + (shiftV .shr .u64 x3 8)) : Int) fun x4 =>
  Nneg 16 (
  Let (IntKind.u64.wrap (x4 + (shiftV .shr .u64 x4 16)) : Int) fun x5 =>
  Nneg 32 (
  Let (IntKind.u64.wrap (x5 + (shiftV .shr .u64 x5 32)) : Int) fun x6 =>
  R (bitV .and .i64 (IntKind.i64.wrap x6) 127) h
  )
  )
  )
  )
  )
  )
theorem E_math_bits_OnesCount64 (x : Int) (h : Heap) (R : Int → Heap → Prop) :
    VF Try.prog [] Try.f130 [.int .u64 x] h [.one (.int .i64)] R = S_math_bits_OnesCount64 x h R := by kernel_rfl
theorem A_math_bits_OnesCount64 {x : Int} {h : Heap} {R : Int → Heap → Prop} (hs : S_math_bits_OnesCount64 x h R) : C_math_bits_OnesCount64 x h R :=
  use_ Try.func130 (by kernel_rfl) (E_math_bits_OnesCount64 x h R) hs

end Go.Proofs.Ytmpekddpehhdnaa
