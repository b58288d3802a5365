/- Printed by a program: what each function asks of the heap, that this is the reading of its code, and what follows for a call. -/
import Derived.Test.YtegbnmaglkpkjaaSC
import Derived.Test.YtegbnmaglkpkjaaProg
set_option maxRecDepth 1000000
namespace Go.Proofs.Ytegbnmaglkpkjaa
open Go

/-- lease.New -/
def S_lease_New (n : Int) (length : Int) (skew : Int) (h : Heap) (R : Option Addr → Heap → Prop) : Prop :=
  (bif decide (n < 1) then
    R none h
  else
    (bif decide (n > 7) then
      R none h
    else
      (bif decide (length < 1) then
        R none h
      else
        (bif decide (length > 64) then
          R none h
        else
          (bif decide (skew < 1) then
            R none h
          else
            (bif decide (skew > 64) then
              R none h
            else
              (bif decide ((IntKind.i64.wrap (2 * skew)) ≥ length) then
                R none h
              else
                Alloc h (.cells #[.int .i64 length, .int .i64 skew, .slice none 0 0, .slice none 0 0] 89) fun p h_ =>
                Loop [.one (.int .i64)] (fun _ (x41 : Int) h_1 go =>
                  (bif decide (x41 < n) then
                    Nn (some p) fun p1 =>
                    Ld .sl h_1 (p1.add 2) fun (l : Sl) =>
                    Alloc h_1 (.cells #[.int .i64 0, .int .i64 0, .int .i64 0, .int .u64 0, .int .i64 0, .int .i64 (-1), .int .i64 0] 91) fun b h_2 =>
                    App Try.prog 86 86 l ⟨some b, 1, 1⟩ h_2 fun s h_3 =>
                    Nn (some p) fun p2 =>
                    St h_3 (p2.add 2) (.slice s.a s.n s.c) fun h_4 =>
                    go (IntKind.i64.wrap (x41 + 1)) h_4
                  else
                    R (some p) h_1
                  )
                  ) (0, ()) h_
              )
            )
          )
        )
      )
    )
  )
theorem E_lease_New (n : Int) (length : Int) (skew : Int) (h : Heap) (R : Option Addr → Heap → Prop) :
    VF Try.prog [(122, [(41, .one (.int .i64))])] Try.f24 [.int .i64 n, .int .i64 length, .int .i64 skew] h [.one .ptr] R = S_lease_New n length skew h R := by kernel_rfl
theorem A_lease_New {n : Int} {length : Int} {skew : Int} {h : Heap} {R : Option Addr → Heap → Prop} (hs : S_lease_New n length skew h R) : C_lease_New n length skew h R :=
  use_ Try.func24 (by kernel_rfl) (E_lease_New n length skew h R) hs

/-- (*lease.Field).Flight -/
def S_lease_Field_Flight (f : Option Addr) (h : Heap) (R : Int → Heap → Prop) : Prop :=
  (bif f.isNone then
    R 0 h
  else
    Nn f fun p =>
    Ld .sl h (p.add 3) fun (flight : Sl) =>
    R (flight.n : Int) h
  )
theorem E_lease_Field_Flight (f : Option Addr) (h : Heap) (R : Int → Heap → Prop) :
    VF Try.prog [] Try.f28 [.pointer f] h [.one (.int .i64)] R = S_lease_Field_Flight f h R := by kernel_rfl
theorem A_lease_Field_Flight {f : Option Addr} {h : Heap} {R : Int → Heap → Prop} (hs : S_lease_Field_Flight f h R) : C_lease_Field_Flight f h R :=
  use_ Try.func28 (by kernel_rfl) (E_lease_Field_Flight f h R) hs

/-- (*lease.Field).Promised -/
def S_lease_Field_Promised (f : Option Addr) (i : Int) (h : Heap) (R : Int → Int → Heap → Prop) : Prop :=
  C_lease_Field_is f i h fun (r : Int) h_ =>
  (bif r != 0 then
    Let (-1 : Int) fun who =>
    R who 0 h_
  else
    Nn f fun p =>
    Ld .sl h_ (p.add 2) fun (l : Sl) =>
    Ix l i 7 fun e =>
    Ld (.int .i64) h_ (e.add 5) fun (whom : Int) =>
    Nn f fun p1 =>
    Ld .sl h_ (p1.add 2) fun (l1 : Sl) =>
    Ix l1 i 7 fun e1 =>
    Ld (.int .i64) h_ (e1.add 6) fun (until_ : Int) =>
    R whom until_ h_
  )
theorem E_lease_Field_Promised (f : Option Addr) (i : Int) (h : Heap) (R : Int → Int → Heap → Prop) :
    VF Try.prog [] Try.f29 [.pointer f, .int .i64 i] h [.one (.int .i64), .one (.int .i64)] R = S_lease_Field_Promised f i h R := by kernel_rfl
theorem A_lease_Field_Promised {f : Option Addr} {i : Int} {h : Heap} {R : Int → Int → Heap → Prop} (hs : S_lease_Field_Promised f i h R) : C_lease_Field_Promised f i h R :=
  use_ Try.func29 (by kernel_rfl) (E_lease_Field_Promised f i h R) hs

/-- (*lease.Field).Clock -/
def S_lease_Field_Clock (f : Option Addr) (i : Int) (h : Heap) (R : Int → Heap → Prop) : Prop :=
  C_lease_Field_is f i h fun (r : Int) h_ =>
  (bif r != 0 then
    R 0 h_
  else
    Nn f fun p =>
    Ld .sl h_ (p.add 2) fun (l : Sl) =>
    Ix l i 7 fun e =>
    Ld (.int .i64) h_ e fun (clock : Int) =>
    R clock h_
  )
theorem E_lease_Field_Clock (f : Option Addr) (i : Int) (h : Heap) (R : Int → Heap → Prop) :
    VF Try.prog [] Try.f30 [.pointer f, .int .i64 i] h [.one (.int .i64)] R = S_lease_Field_Clock f i h R := by kernel_rfl
theorem A_lease_Field_Clock {f : Option Addr} {i : Int} {h : Heap} {R : Int → Heap → Prop} (hs : S_lease_Field_Clock f i h R) : C_lease_Field_Clock f i h R :=
  use_ Try.func30 (by kernel_rfl) (E_lease_Field_Clock f i h R) hs

/-- (*lease.Field).Till -/
def S_lease_Field_Till (f : Option Addr) (i : Int) (h : Heap) (R : Int → Heap → Prop) : Prop :=
  C_lease_Field_is f i h fun (r : Int) h_ =>
  (bif r != 0 then
    R 0 h_
  else
    Nn f fun p =>
    Ld .sl h_ (p.add 2) fun (l : Sl) =>
    Ix l i 7 fun e =>
    Ld (.int .i64) h_ (e.add 4) fun (till : Int) =>
    R till h_
  )
theorem E_lease_Field_Till (f : Option Addr) (i : Int) (h : Heap) (R : Int → Heap → Prop) :
    VF Try.prog [] Try.f31 [.pointer f, .int .i64 i] h [.one (.int .i64)] R = S_lease_Field_Till f i h R := by kernel_rfl
theorem A_lease_Field_Till {f : Option Addr} {i : Int} {h : Heap} {R : Int → Heap → Prop} (hs : S_lease_Field_Till f i h R) : C_lease_Field_Till f i h R :=
  use_ Try.func31 (by kernel_rfl) (E_lease_Field_Till f i h R) hs

/-- (*lease.Field).Holds -/
def S_lease_Field_Holds (f : Option Addr) (i : Int) (h : Heap) (R : Bool → Heap → Prop) : Prop :=
  C_lease_Field_is f i h fun (r : Int) h_ =>
  (bif r == 0 then
    Nn f fun p =>
    Ld .sl h_ (p.add 2) fun (l : Sl) =>
    Ix l i 7 fun e =>
    Ld (.int .i64) h_ e fun (clock : Int) =>
    Nn f fun p1 =>
    Ld .sl h_ (p1.add 2) fun (l1 : Sl) =>
    Ix l1 i 7 fun e1 =>
    Ld (.int .i64) h_ (e1.add 4) fun (till : Int) =>
    R (decide (clock < till)) h_
  else
    R false h_
  )
theorem E_lease_Field_Holds (f : Option Addr) (i : Int) (h : Heap) (R : Bool → Heap → Prop) :
    VF Try.prog [] Try.f32 [.pointer f, .int .i64 i] h [.one .bool] R = S_lease_Field_Holds f i h R := by kernel_rfl
theorem A_lease_Field_Holds {f : Option Addr} {i : Int} {h : Heap} {R : Bool → Heap → Prop} (hs : S_lease_Field_Holds f i h R) : C_lease_Field_Holds f i h R :=
  use_ Try.func32 (by kernel_rfl) (E_lease_Field_Holds f i h R) hs

/-- (*lease.Field).Drop -/
def S_lease_Field_Drop (f : Option Addr) (i : Int) (h : Heap) (R : Int → Heap → Prop) : Prop :=
  C_lease_Field_at f i h fun (r : Int) h_ =>
  (bif r == 0 then
    Nn f fun p =>
    Ld .sl h_ (p.add 3) fun (flight : Sl) =>
    C_slices_Delete_lease_packet_lease_packet flight i (IntKind.i64.wrap (i + 1)) h_ fun (r1 : Sl) h_1 =>
    Nn f fun p1 =>
    St h_1 (p1.add 3) (.slice r1.a r1.n r1.c) fun h_2 =>
    R r h_2
  else
    R r h_
  )
theorem E_lease_Field_Drop (f : Option Addr) (i : Int) (h : Heap) (R : Int → Heap → Prop) :
    VF Try.prog [] Try.f33 [.pointer f, .int .i64 i] h [.one (.int .i64)] R = S_lease_Field_Drop f i h R := by kernel_rfl
theorem A_lease_Field_Drop {f : Option Addr} {i : Int} {h : Heap} {R : Int → Heap → Prop} (hs : S_lease_Field_Drop f i h R) : C_lease_Field_Drop f i h R :=
  use_ Try.func33 (by kernel_rfl) (E_lease_Field_Drop f i h R) hs

/-- (*lease.Field).Tick -/
def S_lease_Field_Tick (f : Option Addr) (i : Int) (h : Heap) (R : Int → Heap → Prop) : Prop :=
  C_lease_Field_is f i h fun (r : Int) h_ =>
  (bif r != 0 then
    R r h_
  else
    Nn f fun p =>
    Ld .sl h_ (p.add 2) fun (l : Sl) =>
    Ix l i 7 fun e =>
    Ld (.int .i64) h_ e fun (clock : Int) =>
    Let (IntKind.i64.wrap (clock + 1) : Int) fun now =>
    Nn f fun p1 =>
    Ld .sl h_ (p1.add 2) fun (l1 : Sl) =>
    Loop [.one (.int .i64)] (fun _ (x29 : Int) h_1 go =>
      (bif decide (x29 < (l1.n : Int)) then
        Ix l1 x29 7 fun e1 =>
        Ld (.int .i64) h_1 e1 fun (x_clock : Int) =>
        Ld (.int .i64) h_1 (e1.add 1) fun (x_round : Int) =>
        Ld (.int .i64) h_1 (e1.add 2) fun (x_began : Int) =>
        Ld (.int .u64) h_1 (e1.add 3) fun (x_granted : Int) =>
        Ld (.int .i64) h_1 (e1.add 4) fun (x_till : Int) =>
        Ld (.int .i64) h_1 (e1.add 5) fun (x_whom : Int) =>
        Ld (.int .i64) h_1 (e1.add 6) fun (x_until : Int) =>
        Alloc h_1 (.cells #[.int .i64 0, .int .i64 0, .int .i64 0, .int .u64 0, .int .i64 0, .int .i64 0, .int .i64 0] 91) fun x h_2 =>
        St h_2 x (.int .i64 x_clock) fun h_3 =>
        St h_3 (x.add 1) (.int .i64 x_round) fun h_4 =>
        St h_4 (x.add 2) (.int .i64 x_began) fun h_5 =>
        St h_5 (x.add 3) (.int .u64 x_granted) fun h_6 =>
        St h_6 (x.add 4) (.int .i64 x_till) fun h_7 =>
        St h_7 (x.add 5) (.int .i64 x_whom) fun h_8 =>
        St h_8 (x.add 6) (.int .i64 x_until) fun h_9 =>
        (bif x29 != i then
          Ld (.int .i64) h_9 x fun (clock1 : Int) =>
          Nn f fun p2 =>
          Ld (.int .i64) h_9 (p2.add 1) fun (skew : Int) =>
          (bif decide ((IntKind.i64.wrap (now - clock1)) > skew) then
            R 8 h_9
          else
            go (IntKind.i64.wrap (x29 + 1)) h_9
          )
        else
          go (IntKind.i64.wrap (x29 + 1)) h_9
        )
      else
        Nn f fun p3 =>
        Ld .sl h_1 (p3.add 2) fun (l2 : Sl) =>
        Ix l2 i 7 fun e2 =>
        St h_1 e2 (.int .i64 now) fun h_10 =>
        R 0 h_10
      )
      ) (0, ()) h_
  )
theorem E_lease_Field_Tick (f : Option Addr) (i : Int) (h : Heap) (R : Int → Heap → Prop) :
    VF Try.prog [(122, [(29, .one (.int .i64))])] Try.f34 [.pointer f, .int .i64 i] h [.one (.int .i64)] R = S_lease_Field_Tick f i h R := by kernel_rfl
theorem A_lease_Field_Tick {f : Option Addr} {i : Int} {h : Heap} {R : Int → Heap → Prop} (hs : S_lease_Field_Tick f i h R) : C_lease_Field_Tick f i h R :=
  use_ Try.func34 (by kernel_rfl) (E_lease_Field_Tick f i h R) hs

/-- (*lease.Field).Ask -/
def S_lease_Field_Ask (f : Option Addr) (i : Int) (h : Heap) (R : Int → Int → Heap → Prop) : Prop :=
  C_lease_Field_is f i h fun (r : Int) h_ =>
  (bif r != 0 then
    R 0 r h_
  else
    Nn f fun p =>
    Ld .sl h_ (p.add 2) fun (l : Sl) =>
    Ix l i 7 fun e =>
    Nn (some e) fun p1 =>
    Ld (.int .i64) h_ (p1.add 1) fun (round : Int) =>
    Nn (some e) fun p2 =>
    St h_ (p2.add 1) (.int .i64 (IntKind.i64.wrap (round + 1))) fun h_1 =>
    Nn (some e) fun p3 =>
    Ld (.int .i64) h_1 p3 fun (clock : Int) =>
    Nn (some e) fun p4 =>
    St h_1 (p4.add 2) (.int .i64 clock) fun h_2 =>
    Nn (some e) fun p5 =>
    St h_2 (p5.add 3) (.int .u64 0) fun h_3 =>
    Nn f fun p6 =>
    Ld .sl h_3 (p6.add 2) fun (l1 : Sl) =>
    Loop [.one (.int .i64)] (fun _ (x43 : Int) h_4 go =>
      (bif decide (x43 < (l1.n : Int)) then
        Nn f fun p7 =>
        Ld .sl h_4 (p7.add 3) fun (flight : Sl) =>
        Nn (some e) fun p8 =>
        Ld (.int .i64) h_4 (p8.add 1) fun (round1 : Int) =>
        Alloc h_4 (.cells #[.int .i64 i, .int .i64 x43, .int .i64 round1, .bool false] 94) fun b h_5 =>
        (Ld .sl h_5 (p7.add 3) fun (flight1 : Sl) => (.slice flight1.a flight1.n flight1.c : Value) = .slice flight.a flight.n flight.c) ∧
        App Try.prog 87 87 flight ⟨some b, 1, 1⟩ h_5 fun s h_6 =>
        Nn f fun p9 =>
        St h_6 (p9.add 3) (.slice s.a s.n s.c) fun h_7 =>
        go (IntKind.i64.wrap (x43 + 1)) h_7
      else
        Nn (some e) fun p10 =>
        Ld (.int .i64) h_4 (p10.add 1) fun (round2 : Int) =>
        R round2 0 h_4
      )
      ) (0, ()) h_3
  )
theorem E_lease_Field_Ask (f : Option Addr) (i : Int) (h : Heap) (R : Int → Int → Heap → Prop) :
    VF Try.prog [(506, [(43, .one (.int .i64))])] Try.f35 [.pointer f, .int .i64 i] h [.one (.int .i64), .one (.int .i64)] R = S_lease_Field_Ask f i h R := by kernel_rfl
theorem A_lease_Field_Ask {f : Option Addr} {i : Int} {h : Heap} {R : Int → Int → Heap → Prop} (hs : S_lease_Field_Ask f i h R) : C_lease_Field_Ask f i h R :=
  use_ Try.func35 (by kernel_rfl) (E_lease_Field_Ask f i h R) hs

/-- (*lease.Field).Deliver -/
def S_lease_Field_Deliver (f : Option Addr) (i : Int) (h : Heap) (R : Int → Heap → Prop) : Prop :=
  C_lease_Field_at f i h fun (r : Int) h_ =>
  (bif r != 0 then
    R r h_
  else
    Nn f fun p =>
    Ld .sl h_ (p.add 3) fun (flight : Sl) =>
    Ix flight i 4 fun e =>
    Ld (.int .i64) h_ e fun (x_from : Int) =>
    Ld (.int .i64) h_ (e.add 1) fun (x_to : Int) =>
    Ld (.int .i64) h_ (e.add 2) fun (x_round : Int) =>
    Ld .bool h_ (e.add 3) fun (x_answer : Bool) =>
    Alloc h_ (.cells #[.int .i64 0, .int .i64 0, .int .i64 0, .bool false] 94) fun p1 h_1 =>
    St h_1 p1 (.int .i64 x_from) fun h_2 =>
    St h_2 (p1.add 1) (.int .i64 x_to) fun h_3 =>
    St h_3 (p1.add 2) (.int .i64 x_round) fun h_4 =>
    St h_4 (p1.add 3) (.bool x_answer) fun h_5 =>
    C_lease_Field_Drop f i h_5 fun (r1 : Int) h_6 =>
    Ld .bool h_6 (p1.add 3) fun (answer : Bool) =>
    (bif answer then
      Ld (.int .i64) h_6 p1 fun (x_from1 : Int) =>
      Ld (.int .i64) h_6 (p1.add 1) fun (x_to1 : Int) =>
      Ld (.int .i64) h_6 (p1.add 2) fun (x_round1 : Int) =>
      Ld .bool h_6 (p1.add 3) fun (x_answer1 : Bool) =>
      C_lease_Field_answered f (x_from1, x_to1, x_round1, x_answer1, ()) h_6 fun h_7 =>
      R 0 h_7
    else
      Ld (.int .i64) h_6 p1 fun (x_from2 : Int) =>
      Ld (.int .i64) h_6 (p1.add 1) fun (x_to2 : Int) =>
      Ld (.int .i64) h_6 (p1.add 2) fun (x_round2 : Int) =>
      Ld .bool h_6 (p1.add 3) fun (x_answer2 : Bool) =>
      C_lease_Field_asked f (x_from2, x_to2, x_round2, x_answer2, ()) h_6 fun h_8 =>
      R 0 h_8
    )
  )
theorem E_lease_Field_Deliver (f : Option Addr) (i : Int) (h : Heap) (R : Int → Heap → Prop) :
    VF Try.prog [] Try.f36 [.pointer f, .int .i64 i] h [.one (.int .i64)] R = S_lease_Field_Deliver f i h R := by kernel_rfl
theorem A_lease_Field_Deliver {f : Option Addr} {i : Int} {h : Heap} {R : Int → Heap → Prop} (hs : S_lease_Field_Deliver f i h R) : C_lease_Field_Deliver f i h R :=
  use_ Try.func36 (by kernel_rfl) (E_lease_Field_Deliver f i h R) hs

/-- (*lease.Field).Double -/
def S_lease_Field_Double (f : Option Addr) (i : Int) (h : Heap) (R : Int → Heap → Prop) : Prop :=
  C_lease_Field_at f i h fun (r : Int) h_ =>
  (bif r == 0 then
    Nn f fun p =>
    Ld .sl h_ (p.add 3) fun (flight : Sl) =>
    Nn f fun p1 =>
    Ld .sl h_ (p1.add 3) fun (flight1 : Sl) =>
    Ix flight1 i 4 fun e =>
    Ld (.int .i64) h_ e fun (x_from : Int) =>
    Ld (.int .i64) h_ (e.add 1) fun (x_to : Int) =>
    Ld (.int .i64) h_ (e.add 2) fun (x_round : Int) =>
    Ld .bool h_ (e.add 3) fun (x_answer : Bool) =>
    Alloc h_ (.cells #[.int .i64 x_from, .int .i64 x_to, .int .i64 x_round, .bool x_answer] 94) fun b h_1 =>
    (Ld .sl h_1 (p.add 3) fun (flight2 : Sl) => (.slice flight2.a flight2.n flight2.c : Value) = .slice flight.a flight.n flight.c) ∧
    App Try.prog 87 87 flight ⟨some b, 1, 1⟩ h_1 fun s h_2 =>
    Nn f fun p2 =>
    St h_2 (p2.add 3) (.slice s.a s.n s.c) fun h_3 =>
    R r h_3
  else
    R r h_
  )
theorem E_lease_Field_Double (f : Option Addr) (i : Int) (h : Heap) (R : Int → Heap → Prop) :
    VF Try.prog [] Try.f55 [.pointer f, .int .i64 i] h [.one (.int .i64)] R = S_lease_Field_Double f i h R := by kernel_rfl
theorem A_lease_Field_Double {f : Option Addr} {i : Int} {h : Heap} {R : Int → Heap → Prop} (hs : S_lease_Field_Double f i h R) : C_lease_Field_Double f i h R :=
  use_ Try.func55 (by kernel_rfl) (E_lease_Field_Double f i h R) hs

/-- (*lease.Field).Fail -/
def S_lease_Field_Fail (f : Option Addr) (i : Int) (h : Heap) (R : Int → Heap → Prop) : Prop :=
  C_lease_Field_is f i h fun (r : Int) h_ =>
  (bif r != 0 then
    R r h_
  else
    Nn f fun p =>
    Ld .sl h_ (p.add 2) fun (l : Sl) =>
    Ix l i 7 fun e =>
    Ld (.int .i64) h_ e fun (x_clock : Int) =>
    Ld (.int .i64) h_ (e.add 1) fun (x_round : Int) =>
    Ld (.int .i64) h_ (e.add 2) fun (x_began : Int) =>
    Ld (.int .u64) h_ (e.add 3) fun (x_granted : Int) =>
    Ld (.int .i64) h_ (e.add 4) fun (x_till : Int) =>
    Ld (.int .i64) h_ (e.add 5) fun (x_whom : Int) =>
    Ld (.int .i64) h_ (e.add 6) fun (x_until : Int) =>
    Alloc h_ (.cells #[.int .i64 0, .int .i64 0, .int .i64 0, .int .u64 0, .int .i64 0, .int .i64 0, .int .i64 0] 91) fun x h_1 =>
    St h_1 x (.int .i64 x_clock) fun h_2 =>
    St h_2 (x.add 1) (.int .i64 x_round) fun h_3 =>
    St h_3 (x.add 2) (.int .i64 x_began) fun h_4 =>
    St h_4 (x.add 3) (.int .u64 x_granted) fun h_5 =>
    St h_5 (x.add 4) (.int .i64 x_till) fun h_6 =>
    St h_6 (x.add 5) (.int .i64 x_whom) fun h_7 =>
    St h_7 (x.add 6) (.int .i64 x_until) fun h_8 =>
    Nn f fun p1 =>
    Ld .sl h_8 (p1.add 2) fun (l1 : Sl) =>
    Ld (.int .i64) h_8 x fun (clock : Int) =>
    Ld (.int .i64) h_8 (x.add 1) fun (round : Int) =>
    Ld (.int .i64) h_8 x fun (clock1 : Int) =>
    Nn f fun p2 =>
    Ld (.int .i64) h_8 p2 fun (length : Int) =>
    Ix l1 i 7 fun e1 =>
    St h_8 e1 (.int .i64 clock) fun h_9 =>
    St h_9 (e1.add 1) (.int .i64 (IntKind.i64.wrap (round + 1))) fun h_10 =>
    St h_10 (e1.add 2) (.int .i64 0) fun h_11 =>
    St h_11 (e1.add 3) (.int .u64 0) fun h_12 =>
    St h_12 (e1.add 4) (.int .i64 0) fun h_13 =>
    St h_13 (e1.add 5) (.int .i64 (-1)) fun h_14 =>
    St h_14 (e1.add 6) (.int .i64 (IntKind.i64.wrap (clock1 + length))) fun h_15 =>
    R 0 h_15
  )
theorem E_lease_Field_Fail (f : Option Addr) (i : Int) (h : Heap) (R : Int → Heap → Prop) :
    VF Try.prog [] Try.f56 [.pointer f, .int .i64 i] h [.one (.int .i64)] R = S_lease_Field_Fail f i h R := by kernel_rfl
theorem A_lease_Field_Fail {f : Option Addr} {i : Int} {h : Heap} {R : Int → Heap → Prop} (hs : S_lease_Field_Fail f i h R) : C_lease_Field_Fail f i h R :=
  use_ Try.func56 (by kernel_rfl) (E_lease_Field_Fail f i h R) hs

/-- (*lease.Field).is -/
def S_lease_Field_is (f : Option Addr) (i : Int) (h : Heap) (R : Int → Heap → Prop) : Prop :=
  (bif f.isNone then
    R 1 h
  else
    (bif decide (i < 0) then
      R 6 h
    else
      Nn f fun p =>
      Ld .sl h (p.add 2) fun (l : Sl) =>
      (bif decide (i ≥ (l.n : Int)) then
        R 6 h
      else
        R 0 h
      )
    )
  )
theorem E_lease_Field_is (f : Option Addr) (i : Int) (h : Heap) (R : Int → Heap → Prop) :
    VF Try.prog [] Try.f63 [.pointer f, .int .i64 i] h [.one (.int .i64)] R = S_lease_Field_is f i h R := by kernel_rfl
theorem A_lease_Field_is {f : Option Addr} {i : Int} {h : Heap} {R : Int → Heap → Prop} (hs : S_lease_Field_is f i h R) : C_lease_Field_is f i h R :=
  use_ Try.func63 (by kernel_rfl) (E_lease_Field_is f i h R) hs

/-- (*lease.Field).at -/
def S_lease_Field_at (f : Option Addr) (i : Int) (h : Heap) (R : Int → Heap → Prop) : Prop :=
  (bif f.isNone then
    R 1 h
  else
    (bif decide (i < 0) then
      R 6 h
    else
      Nn f fun p =>
      Ld .sl h (p.add 3) fun (flight : Sl) =>
      (bif decide (i ≥ (flight.n : Int)) then
        R 6 h
      else
        R 0 h
      )
    )
  )
theorem E_lease_Field_at (f : Option Addr) (i : Int) (h : Heap) (R : Int → Heap → Prop) :
    VF Try.prog [] Try.f64 [.pointer f, .int .i64 i] h [.one (.int .i64)] R = S_lease_Field_at f i h R := by kernel_rfl
theorem A_lease_Field_at {f : Option Addr} {i : Int} {h : Heap} {R : Int → Heap → Prop} (hs : S_lease_Field_at f i h R) : C_lease_Field_at f i h R :=
  use_ Try.func64 (by kernel_rfl) (E_lease_Field_at f i h R) hs

/-- slices.Delete[[]lease.packet,lease.packet] -/
def S_slices_Delete_lease_packet_lease_packet (s : Sl) (i : Int) (j : Int) (h : Heap) (R : Sl → Heap → Prop) : Prop :=
  Cut Try.prog 87 s (some (.int .i64 i)) (some (.int .i64 j)) (some (.int .i64 (s.n : Int))) fun s1 =>
  (bif i == j then
    R s h
  else
    Let ((s.n : Int) : Int) fun oldlen =>
    Cut Try.prog 87 s none (some (.int .i64 i)) none fun s2 =>
    Cut Try.prog 87 s (some (.int .i64 j)) none none fun s3 =>
    App Try.prog 87 87 s2 s3 h fun s4 h_ =>
    Cut Try.prog 87 s4 (some (.int .i64 (s4.n : Int))) (some (.int .i64 oldlen)) none fun s5 =>
    OpT Try.prog (Builtin.clear_ #[87] 0 #[.slice s5.a s5.n s5.c]) h_ [] fun h_1 =>
    R s4 h_1
  )
theorem E_slices_Delete_lease_packet_lease_packet (s : Sl) (i : Int) (j : Int) (h : Heap) (R : Sl → Heap → Prop) :
    VF Try.prog [] Try.f65 [.slice s.a s.n s.c, .int .i64 i, .int .i64 j] h [.one .sl] R = S_slices_Delete_lease_packet_lease_packet s i j h R := by kernel_rfl
theorem A_slices_Delete_lease_packet_lease_packet {s : Sl} {i : Int} {j : Int} {h : Heap} {R : Sl → Heap → Prop} (hs : S_slices_Delete_lease_packet_lease_packet s i j h R) : C_slices_Delete_lease_packet_lease_packet s i j h R :=
  use_ Try.func65 (by kernel_rfl) (E_slices_Delete_lease_packet_lease_packet s i j h R) hs

/-- (*lease.Field).answered -/
def S_lease_Field_answered (f : Option Addr) (p : KL [.int .i64, .int .i64, .int .i64, .bool]) (h : Heap) (R : Heap → Prop) : Prop :=
  Alloc h (.cells #[.int .i64 p.1, .int .i64 p.2.1, .int .i64 p.2.2.1, .bool p.2.2.2.1] 94) fun p1 h_ =>
  Nn f fun p2 =>
  Ld .sl h_ (p2.add 2) fun (l : Sl) =>
  Ld (.int .i64) h_ (p1.add 1) fun (to : Int) =>
  Ix l to 7 fun e =>
  Ld (.int .i64) h_ (p1.add 2) fun (round : Int) =>
  Nn (some e) fun p3 =>
  Ld (.int .i64) h_ (p3.add 1) fun (round1 : Int) =>
  (bif round != round1 then
    R h_
  else
    Nn (some e) fun p4 =>
    Ld (.int .u64) h_ (p4.add 3) fun (granted : Int) =>
    Ld (.int .i64) h_ p1 fun (from_ : Int) =>
    Nneg (IntKind.u64.wrap from_) (
    Nn (some e) fun p5 =>
    St h_ (p5.add 3) (.int .u64 (bitV .or .u64 granted (shiftV .shl .u64 1 (IntKind.u64.wrap from_)))) fun h_1 =>
    Nn (some e) fun p6 =>
    Ld (.int .u64) h_1 (p6.add 3) fun (granted1 : Int) =>
    Nn f fun p7 =>
    Ld .sl h_1 (p7.add 2) fun (l1 : Sl) =>
    C_math_bits_OnesCount granted1 h_1 fun (r : Int) h_2 =>
    (Ld .sl h_2 (p7.add 2) fun (l2 : Sl) => (.slice l2.a l2.n l2.c : Value) = .slice l1.a l1.n l1.c) ∧
    (bif decide ((IntKind.i64.wrap (2 * r)) > (l1.n : Int)) then
      Nn (some e) fun p8 =>
      Ld (.int .i64) h_2 (p8.add 4) fun (till : Int) =>
      Nn (some e) fun p9 =>
      Ld (.int .i64) h_2 (p9.add 2) fun (began : Int) =>
      Nn f fun p10 =>
      Ld (.int .i64) h_2 p10 fun (length : Int) =>
      Nn f fun p11 =>
      Ld (.int .i64) h_2 (p11.add 1) fun (skew : Int) =>
      Nn (some e) fun p12 =>
      St h_2 (p12.add 4) (.int .i64 (if (IntKind.i64.wrap ((IntKind.i64.wrap (began + length)) - (IntKind.i64.wrap (2 * skew)))) > till then IntKind.i64.wrap ((IntKind.i64.wrap (began + length)) - (IntKind.i64.wrap (2 * skew))) else till)) fun h_3 =>
      R h_3
    else
      R h_2
    )
    )
  )
theorem E_lease_Field_answered (f : Option Addr) (p : KL [.int .i64, .int .i64, .int .i64, .bool]) (h : Heap) (R : Heap → Prop) :
    VF Try.prog [] Try.f66 [.pointer f, .agg ⟨KL.vals [.int .i64, .int .i64, .int .i64, .bool] p⟩] h [] R = S_lease_Field_answered f p h R := by kernel_rfl
theorem A_lease_Field_answered {f : Option Addr} {p : KL [.int .i64, .int .i64, .int .i64, .bool]} {h : Heap} {R : Heap → Prop} (hs : S_lease_Field_answered f p h R) : C_lease_Field_answered f p h R :=
  use_ Try.func66 (by kernel_rfl) (E_lease_Field_answered f p h R) hs

/-- (*lease.Field).asked -/
def S_lease_Field_asked (f : Option Addr) (p : KL [.int .i64, .int .i64, .int .i64, .bool]) (h : Heap) (R : Heap → Prop) : Prop :=
  Alloc h (.cells #[.int .i64 p.1, .int .i64 p.2.1, .int .i64 p.2.2.1, .bool p.2.2.2.1] 94) fun p1 h_ =>
  Nn f fun p2 =>
  Ld .sl h_ (p2.add 2) fun (l : Sl) =>
  Ld (.int .i64) h_ (p1.add 1) fun (to : Int) =>
  Ix l to 7 fun e =>
  Nn (some e) fun p3 =>
  Ld (.int .i64) h_ (p3.add 5) fun (whom : Int) =>
  Ld (.int .i64) h_ p1 fun (from_ : Int) =>
  (bif whom != from_ then
    Nn (some e) fun p4 =>
    Ld (.int .i64) h_ p4 fun (clock : Int) =>
    Nn (some e) fun p5 =>
    Ld (.int .i64) h_ (p5.add 6) fun (until_ : Int) =>
    (bif decide (clock < until_) then
      R h_
    else
      Ld (.int .i64) h_ p1 fun (from_1 : Int) =>
      Nn (some e) fun p6 =>
      Ld (.int .i64) h_ p6 fun (clock1 : Int) =>
      Nn f fun p7 =>
      Ld (.int .i64) h_ p7 fun (length : Int) =>
      Nn (some e) fun p8 =>
      St h_ (p8.add 5) (.int .i64 from_1) fun h_1 =>
      Nn (some e) fun p9 =>
      St h_1 (p9.add 6) (.int .i64 (IntKind.i64.wrap (clock1 + length))) fun h_2 =>
      Nn f fun p10 =>
      Ld .sl h_2 (p10.add 3) fun (flight : Sl) =>
      Ld (.int .i64) h_2 (p1.add 1) fun (to1 : Int) =>
      Ld (.int .i64) h_2 p1 fun (from_2 : Int) =>
      Ld (.int .i64) h_2 (p1.add 2) fun (round : Int) =>
      Alloc h_2 (.cells #[.int .i64 to1, .int .i64 from_2, .int .i64 round, .bool true] 94) fun b h_3 =>
      (Ld .sl h_3 (p10.add 3) fun (flight1 : Sl) => (.slice flight1.a flight1.n flight1.c : Value) = .slice flight.a flight.n flight.c) ∧
      App Try.prog 87 87 flight ⟨some b, 1, 1⟩ h_3 fun s h_4 =>
      Nn f fun p11 =>
      St h_4 (p11.add 3) (.slice s.a s.n s.c) fun h_5 =>
      R h_5
    )
  else
    Ld (.int .i64) h_ p1 fun (from_3 : Int) =>
    Nn (some e) fun p12 =>
    Ld (.int .i64) h_ p12 fun (clock2 : Int) =>
    Nn f fun p13 =>
    Ld (.int .i64) h_ p13 fun (length1 : Int) =>
    Nn (some e) fun p14 =>
    St h_ (p14.add 5) (.int .i64 from_3) fun h_6 =>
    Nn (some e) fun p15 =>
    St h_6 (p15.add 6) (.int .i64 (IntKind.i64.wrap (clock2 + length1))) fun h_7 =>
    Nn f fun p16 =>
    Ld .sl h_7 (p16.add 3) fun (flight2 : Sl) =>
    Ld (.int .i64) h_7 (p1.add 1) fun (to2 : Int) =>
    Ld (.int .i64) h_7 p1 fun (from_4 : Int) =>
    Ld (.int .i64) h_7 (p1.add 2) fun (round1 : Int) =>
    Alloc h_7 (.cells #[.int .i64 to2, .int .i64 from_4, .int .i64 round1, .bool true] 94) fun b1 h_8 =>
    (Ld .sl h_8 (p16.add 3) fun (flight3 : Sl) => (.slice flight3.a flight3.n flight3.c : Value) = .slice flight2.a flight2.n flight2.c) ∧
    App Try.prog 87 87 flight2 ⟨some b1, 1, 1⟩ h_8 fun s1 h_9 =>
    Nn f fun p17 =>
    St h_9 (p17.add 3) (.slice s1.a s1.n s1.c) fun h_10 =>
    R h_10
  )
theorem E_lease_Field_asked (f : Option Addr) (p : KL [.int .i64, .int .i64, .int .i64, .bool]) (h : Heap) (R : Heap → Prop) :
    VF Try.prog [] Try.f67 [.pointer f, .agg ⟨KL.vals [.int .i64, .int .i64, .int .i64, .bool] p⟩] h [] R = S_lease_Field_asked f p h R := by kernel_rfl
theorem A_lease_Field_asked {f : Option Addr} {p : KL [.int .i64, .int .i64, .int .i64, .bool]} {h : Heap} {R : Heap → Prop} (hs : S_lease_Field_asked f p h R) : C_lease_Field_asked f p h R :=
  use_ Try.func67 (by kernel_rfl) (E_lease_Field_asked f p h R) hs

/-- math.bits.OnesCount -/
def S_math_bits_OnesCount (x : Int) (h : Heap) (R : Int → Heap → Prop) : Prop :=
  C_math_bits_OnesCount64 x h fun (r : Int) h_ =>
  R r h_
theorem E_math_bits_OnesCount (x : Int) (h : Heap) (R : Int → Heap → Prop) :
    VF Try.prog [] Try.f85 [.int .u64 x] h [.one (.int .i64)] R = S_math_bits_OnesCount x h R := by kernel_rfl
theorem A_math_bits_OnesCount {x : Int} {h : Heap} {R : Int → Heap → Prop} (hs : S_math_bits_OnesCount x h R) : C_math_bits_OnesCount x h R :=
  use_ Try.func85 (by kernel_rfl) (E_math_bits_OnesCount x h R) hs

/-- math.bits.OnesCount64 -/
def S_math_bits_OnesCount64 (x : Int) (h : Heap) (R : Int → Heap → Prop) : Prop :=
  Nneg 1 (
  Let (IntKind.u64.wrap ((bitV .and .u64 (shiftV .shr .u64 x 1) 6148914691236517205) + (bitV .and .u64 x 6148914691236517205)) : Int) fun x1 =>
  Nneg 2 (
  Let (IntKind.u64.wrap ((bitV .and .u64 (shiftV .shr .u64 x1 2) 3689348814741910323) + (bitV .and .u64 x1 3689348814741910323)) : Int) fun x2 =>
  Nneg 4 (
  Let (bitV .and .u64 (IntKind.u64.wrap ((shiftV .shr .u64 x2 4) + x2)) 1085102592571150095 : Int) fun x3 =>
  Nneg 8 (
  Let (IntKind.u64.wrap (x3 + (shiftV .shr .u64 x3 8)) : Int) fun x4 =>
  Nneg 16 (
  Let (IntKind.u64.wrap (x4 + (shiftV .shr .u64 x4 16)) : Int) fun x5 =>
  Nneg 32 (
  Let (IntKind.u64.wrap (x5 + (shiftV .shr .u64 x5 32)) : Int) fun x6 =>
  R (bitV .and .i64 (IntKind.i64.wrap x6) 127) h
  )
  )
  )
  )
  )
  )
theorem E_math_bits_OnesCount64 (x : Int) (h : Heap) (R : Int → Heap → Prop) :
    VF Try.prog [] Try.f90 [.int .u64 x] h [.one (.int .i64)] R = S_math_bits_OnesCount64 x h R := by kernel_rfl
theorem A_math_bits_OnesCount64 {x : Int} {h : Heap} {R : Int → Heap → Prop} (hs : S_math_bits_OnesCount64 x h R) : C_math_bits_OnesCount64 x h R :=
  use_ Try.func90 (by kernel_rfl) (E_math_bits_OnesCount64 x h R) hs

end Go.Proofs.Ytegbnmaglkpkjaa
