/- Printed by a program: what each function asks of the heap, that this is the reading of its code, and what follows for a call. -/
import Derived.Test.YtegbnmaglkpkjaaSC
import Derived.Test.YtegbnmaglkpkjaaProg
set_option maxRecDepth 1000000
namespace Go.Proofs.Ytegbnmaglkpkjaa
open Go

/-- (*kissinggateref30.Field).Tick -/
def S_ref30_Field_Tick (f : Option Addr) (i : Int) (h : Heap) (R : Int → Heap → Prop) : Prop :=
  Join [.one .bool] (fun _ (x17 : Bool) h_ =>
    (bif x17 then
      R 6 h_
    else
      Nn f fun p =>
      Ld .sl h_ (p.add 2) fun (Clock : Sl) =>
      Loop [.one (.int .i64)] (fun _ (x23 : Int) h_1 go =>
        (bif decide (x23 < (Clock.n : Int)) then
          Ix Clock x23 1 fun e =>
          Ld (.int .i64) h_1 e fun (x : Int) =>
          (bif x23 != i then
            Nn f fun p1 =>
            Ld .sl h_1 (p1.add 2) fun (Clock1 : Sl) =>
            Ix Clock1 i 1 fun e1 =>
            Ld (.int .i64) h_1 e1 fun (x1 : Int) =>
            Nn f fun p2 =>
            Ld (.int .i64) h_1 (p2.add 1) fun (Skew : Int) =>
            (bif decide ((IntKind.i64.wrap ((IntKind.i64.wrap (x1 + 1)) - x)) > Skew) then
              R 8 h_1
            else
              go (IntKind.i64.wrap (x23 + 1)) h_1
            )
          else
            go (IntKind.i64.wrap (x23 + 1)) h_1
          )
        else
          Nn f fun p3 =>
          Ld .sl h_1 (p3.add 2) fun (Clock2 : Sl) =>
          Nn f fun p4 =>
          Ld .sl h_1 (p4.add 2) fun (Clock3 : Sl) =>
          Ix Clock3 i 1 fun e2 =>
          Ld (.int .i64) h_1 e2 fun (x2 : Int) =>
          Ix Clock2 i 1 fun e3 =>
          St h_1 e3 (.int .i64 (IntKind.i64.wrap (x2 + 1))) fun h_2 =>
          R 0 h_2
        )
        ) (0, ()) h_
    )
    ) fun J =>
  (bif decide (i < 0) then
    J true h
  else
    Nn f fun p5 =>
    Ld .sl h (p5.add 2) fun (Clock4 : Sl) =>
    J (decide (i ≥ (Clock4.n : Int))) h
  )
theorem E_ref30_Field_Tick (f : Option Addr) (i : Int) (h : Heap) (R : Int → Heap → Prop) :
    VF Try.prog [(12, [(17, .one .bool)]), (58, [(23, .one (.int .i64))])] Try.f57 [.pointer f, .int .i64 i] h [.one (.int .i64)] R = S_ref30_Field_Tick f i h R := by kernel_rfl
theorem A_ref30_Field_Tick {f : Option Addr} {i : Int} {h : Heap} {R : Int → Heap → Prop} (hs : S_ref30_Field_Tick f i h R) : C_ref30_Field_Tick f i h R :=
  use_ Try.func57 (by kernel_rfl) (E_ref30_Field_Tick f i h R) hs

/-- (*kissinggateref30.Field).Ask -/
def S_ref30_Field_Ask (f : Option Addr) (i : Int) (h : Heap) (R : Int → Int → Heap → Prop) : Prop :=
  Join [.one .bool] (fun _ (x17 : Bool) h_ =>
    (bif x17 then
      R 0 6 h_
    else
      Nn f fun p =>
      Ld .sl h_ (p.add 3) fun (Round : Sl) =>
      Nn f fun p1 =>
      Ld .sl h_ (p1.add 3) fun (Round1 : Sl) =>
      Ix Round1 i 1 fun e =>
      Ld (.int .i64) h_ e fun (x : Int) =>
      Ix Round i 1 fun e1 =>
      St h_ e1 (.int .i64 (IntKind.i64.wrap (x + 1))) fun h_1 =>
      Nn f fun p2 =>
      Ld .sl h_1 (p2.add 4) fun (Began : Sl) =>
      Nn f fun p3 =>
      Ld .sl h_1 (p3.add 2) fun (Clock : Sl) =>
      Ix Clock i 1 fun e2 =>
      Ld (.int .i64) h_1 e2 fun (x1 : Int) =>
      Ix Began i 1 fun e3 =>
      St h_1 e3 (.int .i64 x1) fun h_2 =>
      Nn f fun p4 =>
      Ld .sl h_2 (p4.add 2) fun (Clock1 : Sl) =>
      Loop [.one (.int .i64)] (fun _ (x50 : Int) h_3 go =>
        (bif decide (x50 < (Clock1.n : Int)) then
          Nn f fun p5 =>
          Ld .sl h_3 (p5.add 9) fun (Flight : Sl) =>
          Nn f fun p6 =>
          Ld .sl h_3 (p6.add 3) fun (Round2 : Sl) =>
          Ix Round2 i 1 fun e4 =>
          Ld (.int .i64) h_3 e4 fun (x2 : Int) =>
          Alloc h_3 (.cells #[.int .i64 i, .int .i64 x50, .int .i64 x2, .bool false] 118) fun b h_4 =>
          (Ld .sl h_4 (p5.add 9) fun (Flight1 : Sl) => (.slice Flight1.a Flight1.n Flight1.c : Value) = .slice Flight.a Flight.n Flight.c) ∧
          App Try.prog 53 53 Flight ⟨some b, 1, 1⟩ h_4 fun s h_5 =>
          Nn f fun p7 =>
          St h_5 (p7.add 9) (.slice s.a s.n s.c) fun h_6 =>
          go (IntKind.i64.wrap (x50 + 1)) h_6
        else
          Nn f fun p8 =>
          Ld .sl h_3 (p8.add 3) fun (Round3 : Sl) =>
          Ix Round3 i 1 fun e5 =>
          Ld (.int .i64) h_3 e5 fun (x3 : Int) =>
          R x3 0 h_3
        )
        ) (0, ()) h_2
    )
    ) fun J =>
  (bif decide (i < 0) then
    J true h
  else
    Nn f fun p9 =>
    Ld .sl h (p9.add 2) fun (Clock2 : Sl) =>
    J (decide (i ≥ (Clock2.n : Int))) h
  )
theorem E_ref30_Field_Ask (f : Option Addr) (i : Int) (h : Heap) (R : Int → Int → Heap → Prop) :
    VF Try.prog [(12, [(17, .one .bool)]), (250, [(50, .one (.int .i64))])] Try.f58 [.pointer f, .int .i64 i] h [.one (.int .i64), .one (.int .i64)] R = S_ref30_Field_Ask f i h R := by kernel_rfl
theorem A_ref30_Field_Ask {f : Option Addr} {i : Int} {h : Heap} {R : Int → Int → Heap → Prop} (hs : S_ref30_Field_Ask f i h R) : C_ref30_Field_Ask f i h R :=
  use_ Try.func58 (by kernel_rfl) (E_ref30_Field_Ask f i h R) hs

/-- (*kissinggateref30.Field).Drop -/
def S_ref30_Field_Drop (f : Option Addr) (i : Int) (h : Heap) (R : Int → Heap → Prop) : Prop :=
  Join [.one .bool] (fun _ (x15 : Bool) h_ =>
    (bif x15 then
      R 6 h_
    else
      Nn f fun p =>
      Ld .sl h_ (p.add 9) fun (Flight : Sl) =>
      Cut Try.prog 53 Flight none (some (.int .i64 i)) none fun s =>
      Nn f fun p1 =>
      Ld .sl h_ (p1.add 9) fun (Flight1 : Sl) =>
      Cut Try.prog 53 Flight1 (some (.int .i64 (IntKind.i64.wrap (i + 1)))) none none fun s1 =>
      Alloc h_ (.cells #[] 118) fun b h_1 =>
      (Ld .sl h_1 (p.add 9) fun (Flight2 : Sl) => (.slice Flight2.a Flight2.n Flight2.c : Value) = .slice Flight.a Flight.n Flight.c) ∧
      (Ld .sl h_1 (p1.add 9) fun (Flight3 : Sl) => (.slice Flight3.a Flight3.n Flight3.c : Value) = .slice Flight1.a Flight1.n Flight1.c) ∧
      App Try.prog 53 53 ⟨some b, 0, 0⟩ s h_1 fun s2 h_2 =>
      (Ld .sl h_2 (p1.add 9) fun (Flight4 : Sl) => (.slice Flight4.a Flight4.n Flight4.c : Value) = .slice Flight1.a Flight1.n Flight1.c) ∧
      App Try.prog 53 53 s2 s1 h_2 fun s3 h_3 =>
      Nn f fun p2 =>
      St h_3 (p2.add 9) (.slice s3.a s3.n s3.c) fun h_4 =>
      R 0 h_4
    )
    ) fun J =>
  (bif decide (i < 0) then
    J true h
  else
    Nn f fun p3 =>
    Ld .sl h (p3.add 9) fun (Flight5 : Sl) =>
    J (decide (i ≥ (Flight5.n : Int))) h
  )
theorem E_ref30_Field_Drop (f : Option Addr) (i : Int) (h : Heap) (R : Int → Heap → Prop) :
    VF Try.prog [(12, [(15, .one .bool)])] Try.f59 [.pointer f, .int .i64 i] h [.one (.int .i64)] R = S_ref30_Field_Drop f i h R := by kernel_rfl
theorem A_ref30_Field_Drop {f : Option Addr} {i : Int} {h : Heap} {R : Int → Heap → Prop} (hs : S_ref30_Field_Drop f i h R) : C_ref30_Field_Drop f i h R :=
  use_ Try.func59 (by kernel_rfl) (E_ref30_Field_Drop f i h R) hs

/-- (*kissinggateref30.Field).Double -/
def S_ref30_Field_Double (f : Option Addr) (i : Int) (h : Heap) (R : Int → Heap → Prop) : Prop :=
  Join [.one .bool] (fun _ (x15 : Bool) h_ =>
    (bif x15 then
      R 6 h_
    else
      Nn f fun p =>
      Ld .sl h_ (p.add 9) fun (Flight : Sl) =>
      Nn f fun p1 =>
      Ld .sl h_ (p1.add 9) fun (Flight1 : Sl) =>
      Ix Flight1 i 4 fun e =>
      Ld (.int .i64) h_ e fun (x_From : Int) =>
      Ld (.int .i64) h_ (e.add 1) fun (x_To : Int) =>
      Ld (.int .i64) h_ (e.add 2) fun (x_Round : Int) =>
      Ld .bool h_ (e.add 3) fun (x_Answer : Bool) =>
      Alloc h_ (.cells #[.int .i64 x_From, .int .i64 x_To, .int .i64 x_Round, .bool x_Answer] 118) fun b h_1 =>
      (Ld .sl h_1 (p.add 9) fun (Flight2 : Sl) => (.slice Flight2.a Flight2.n Flight2.c : Value) = .slice Flight.a Flight.n Flight.c) ∧
      App Try.prog 53 53 Flight ⟨some b, 1, 1⟩ h_1 fun s h_2 =>
      Nn f fun p2 =>
      St h_2 (p2.add 9) (.slice s.a s.n s.c) fun h_3 =>
      R 0 h_3
    )
    ) fun J =>
  (bif decide (i < 0) then
    J true h
  else
    Nn f fun p3 =>
    Ld .sl h (p3.add 9) fun (Flight3 : Sl) =>
    J (decide (i ≥ (Flight3.n : Int))) h
  )
theorem E_ref30_Field_Double (f : Option Addr) (i : Int) (h : Heap) (R : Int → Heap → Prop) :
    VF Try.prog [(12, [(15, .one .bool)])] Try.f60 [.pointer f, .int .i64 i] h [.one (.int .i64)] R = S_ref30_Field_Double f i h R := by kernel_rfl
theorem A_ref30_Field_Double {f : Option Addr} {i : Int} {h : Heap} {R : Int → Heap → Prop} (hs : S_ref30_Field_Double f i h R) : C_ref30_Field_Double f i h R :=
  use_ Try.func60 (by kernel_rfl) (E_ref30_Field_Double f i h R) hs

/-- (*kissinggateref30.Field).Fail -/
def S_ref30_Field_Fail (f : Option Addr) (i : Int) (h : Heap) (R : Int → Heap → Prop) : Prop :=
  Join [.one .bool] (fun _ (x15 : Bool) h_ =>
    (bif x15 then
      R 6 h_
    else
      Nn f fun p =>
      Ld .sl h_ (p.add 5) fun (Till : Sl) =>
      Nn f fun p1 =>
      Ld .sl h_ (p1.add 3) fun (Round : Sl) =>
      Nn f fun p2 =>
      Ld .sl h_ (p2.add 6) fun (Whom : Sl) =>
      Nn f fun p3 =>
      Ld .sl h_ (p3.add 7) fun (Promise : Sl) =>
      Nn f fun p4 =>
      Ld .sl h_ (p4.add 3) fun (Round1 : Sl) =>
      Ix Round1 i 1 fun e =>
      Ld (.int .i64) h_ e fun (x : Int) =>
      Nn f fun p5 =>
      Ld .sl h_ (p5.add 2) fun (Clock : Sl) =>
      Ix Clock i 1 fun e1 =>
      Ld (.int .i64) h_ e1 fun (x1 : Int) =>
      Nn f fun p6 =>
      Ld (.int .i64) h_ p6 fun (Length : Int) =>
      Ix Till i 1 fun e2 =>
      St h_ e2 (.int .i64 0) fun h_1 =>
      Ix Round i 1 fun e3 =>
      St h_1 e3 (.int .i64 (IntKind.i64.wrap (x + 1))) fun h_2 =>
      Ix Whom i 1 fun e4 =>
      St h_2 e4 (.int .i64 (-1)) fun h_3 =>
      Ix Promise i 1 fun e5 =>
      St h_3 e5 (.int .i64 (IntKind.i64.wrap (x1 + Length))) fun h_4 =>
      R 0 h_4
    )
    ) fun J =>
  (bif decide (i < 0) then
    J true h
  else
    Nn f fun p7 =>
    Ld .sl h (p7.add 2) fun (Clock1 : Sl) =>
    J (decide (i ≥ (Clock1.n : Int))) h
  )
theorem E_ref30_Field_Fail (f : Option Addr) (i : Int) (h : Heap) (R : Int → Heap → Prop) :
    VF Try.prog [(12, [(15, .one .bool)])] Try.f61 [.pointer f, .int .i64 i] h [.one (.int .i64)] R = S_ref30_Field_Fail f i h R := by kernel_rfl
theorem A_ref30_Field_Fail {f : Option Addr} {i : Int} {h : Heap} {R : Int → Heap → Prop} (hs : S_ref30_Field_Fail f i h R) : C_ref30_Field_Fail f i h R :=
  use_ Try.func61 (by kernel_rfl) (E_ref30_Field_Fail f i h R) hs

/-- (*kissinggateref30.Field).Deliver -/
def S_ref30_Field_Deliver (f : Option Addr) (i : Int) (h : Heap) (R : Int → Heap → Prop) : Prop :=
  Join [.one .bool] (fun _ (x17 : Bool) h_ =>
    (bif x17 then
      R 6 h_
    else
      Nn f fun p =>
      Ld .sl h_ (p.add 9) fun (Flight : Sl) =>
      Ix Flight i 4 fun e =>
      Ld (.int .i64) h_ e fun (x_From : Int) =>
      Ld (.int .i64) h_ (e.add 1) fun (x_To : Int) =>
      Ld (.int .i64) h_ (e.add 2) fun (x_Round : Int) =>
      Ld .bool h_ (e.add 3) fun (x_Answer : Bool) =>
      Alloc h_ (.cells #[.int .i64 0, .int .i64 0, .int .i64 0, .bool false] 118) fun p1 h_1 =>
      St h_1 p1 (.int .i64 x_From) fun h_2 =>
      St h_2 (p1.add 1) (.int .i64 x_To) fun h_3 =>
      St h_3 (p1.add 2) (.int .i64 x_Round) fun h_4 =>
      St h_4 (p1.add 3) (.bool x_Answer) fun h_5 =>
      C_ref30_Field_Drop f i h_5 fun (r : Int) h_6 =>
      Ld .bool h_6 (p1.add 3) fun (Answer : Bool) =>
      (bif !Answer then
        Join [.one .bool] (fun _ (x60 : Bool) h_7 =>
          Join [] (fun _ h_8 =>
            R 0 h_8
            ) fun J2 =>
          (bif x60 then
            Nn f fun p2 =>
            Ld .sl h_7 (p2.add 6) fun (Whom : Sl) =>
            Ld (.int .i64) h_7 (p1.add 1) fun (To : Int) =>
            Nn f fun p3 =>
            Ld .sl h_7 (p3.add 7) fun (Promise : Sl) =>
            Ld (.int .i64) h_7 (p1.add 1) fun (To1 : Int) =>
            Ld (.int .i64) h_7 p1 fun (From : Int) =>
            Nn f fun p4 =>
            Ld .sl h_7 (p4.add 2) fun (Clock : Sl) =>
            Ld (.int .i64) h_7 (p1.add 1) fun (To2 : Int) =>
            Ix Clock To2 1 fun e1 =>
            Ld (.int .i64) h_7 e1 fun (x : Int) =>
            Nn f fun p5 =>
            Ld (.int .i64) h_7 p5 fun (Length : Int) =>
            Ix Whom To 1 fun e2 =>
            St h_7 e2 (.int .i64 From) fun h_9 =>
            (Ld (.int .i64) h_9 (p1.add 1) fun (To3 : Int) => (.int .i64 To3 : Value) = .int .i64 To1) ∧
            Ix Promise To1 1 fun e3 =>
            St h_9 e3 (.int .i64 (IntKind.i64.wrap (x + Length))) fun h_10 =>
            Nn f fun p6 =>
            Ld .sl h_10 (p6.add 9) fun (Flight1 : Sl) =>
            Ld (.int .i64) h_10 (p1.add 1) fun (To4 : Int) =>
            Ld (.int .i64) h_10 p1 fun (From1 : Int) =>
            Ld (.int .i64) h_10 (p1.add 2) fun (Round : Int) =>
            Alloc h_10 (.cells #[.int .i64 To4, .int .i64 From1, .int .i64 Round, .bool true] 118) fun b h_11 =>
            (Ld .sl h_11 (p6.add 9) fun (Flight2 : Sl) => (.slice Flight2.a Flight2.n Flight2.c : Value) = .slice Flight1.a Flight1.n Flight1.c) ∧
            App Try.prog 53 53 Flight1 ⟨some b, 1, 1⟩ h_11 fun s h_12 =>
            Nn f fun p7 =>
            St h_12 (p7.add 9) (.slice s.a s.n s.c) fun h_13 =>
            J2  h_13
          else
            J2  h_7
          )
          ) fun J1 =>
        Nn f fun p8 =>
        Ld .sl h_6 (p8.add 6) fun (Whom1 : Sl) =>
        Ld (.int .i64) h_6 (p1.add 1) fun (To5 : Int) =>
        Ix Whom1 To5 1 fun e4 =>
        Ld (.int .i64) h_6 e4 fun (x1 : Int) =>
        Ld (.int .i64) h_6 p1 fun (From2 : Int) =>
        (bif x1 == From2 then
          J1 true h_6
        else
          Nn f fun p9 =>
          Ld .sl h_6 (p9.add 2) fun (Clock1 : Sl) =>
          Ld (.int .i64) h_6 (p1.add 1) fun (To6 : Int) =>
          Ix Clock1 To6 1 fun e5 =>
          Ld (.int .i64) h_6 e5 fun (x2 : Int) =>
          Nn f fun p10 =>
          Ld .sl h_6 (p10.add 7) fun (Promise1 : Sl) =>
          Ld (.int .i64) h_6 (p1.add 1) fun (To7 : Int) =>
          Ix Promise1 To7 1 fun e6 =>
          Ld (.int .i64) h_6 e6 fun (x3 : Int) =>
          J1 (decide (x2 ≥ x3)) h_6
        )
      else
        Ld (.int .i64) h_6 (p1.add 2) fun (Round1 : Int) =>
        Nn f fun p11 =>
        Ld .sl h_6 (p11.add 3) fun (Round2 : Sl) =>
        Ld (.int .i64) h_6 (p1.add 1) fun (To8 : Int) =>
        Ix Round2 To8 1 fun e7 =>
        Ld (.int .i64) h_6 e7 fun (x4 : Int) =>
        (bif Round1 != x4 then
          R 0 h_6
        else
          Nn f fun p12 =>
          Ld .sl h_6 (p12.add 8) fun (Grants : Sl) =>
          Ld (.int .i64) h_6 p1 fun (From3 : Int) =>
          Ld (.int .i64) h_6 (p1.add 1) fun (To9 : Int) =>
          Ld (.int .i64) h_6 (p1.add 2) fun (Round3 : Int) =>
          Alloc h_6 (.cells #[.int .i64 From3, .int .i64 To9, .int .i64 Round3] 120) fun b1 h_14 =>
          (Ld .sl h_14 (p12.add 8) fun (Grants1 : Sl) => (.slice Grants1.a Grants1.n Grants1.c : Value) = .slice Grants.a Grants.n Grants.c) ∧
          App Try.prog 52 52 Grants ⟨some b1, 1, 1⟩ h_14 fun s1 h_15 =>
          Nn f fun p13 =>
          St h_15 (p13.add 8) (.slice s1.a s1.n s1.c) fun h_16 =>
          Nn f fun p14 =>
          Ld .sl h_16 (p14.add 4) fun (Began : Sl) =>
          Ld (.int .i64) h_16 (p1.add 1) fun (To10 : Int) =>
          Ix Began To10 1 fun e8 =>
          Ld (.int .i64) h_16 e8 fun (x5 : Int) =>
          Nn f fun p15 =>
          Ld (.int .i64) h_16 p15 fun (Length1 : Int) =>
          Nn f fun p16 =>
          Ld (.int .i64) h_16 (p16.add 1) fun (Skew : Int) =>
          Let (IntKind.i64.wrap ((IntKind.i64.wrap (x5 + Length1)) - (IntKind.i64.wrap (2 * Skew))) : Int) fun till =>
          Ld (.int .i64) h_16 (p1.add 1) fun (To11 : Int) =>
          Ld (.int .i64) h_16 (p1.add 2) fun (Round4 : Int) =>
          Nn f fun p17 =>
          Ld .sl h_16 (p17.add 2) fun (Clock2 : Sl) =>
          C_ref30_Field_granted f To11 Round4 h_16 fun (r1 : Int) h_17 =>
          (Ld .sl h_17 (p17.add 2) fun (Clock3 : Sl) => (.slice Clock3.a Clock3.n Clock3.c : Value) = .slice Clock2.a Clock2.n Clock2.c) ∧
          (bif decide ((IntKind.i64.wrap (2 * r1)) > (Clock2.n : Int)) then
            Nn f fun p18 =>
            Ld .sl h_17 (p18.add 5) fun (Till : Sl) =>
            Ld (.int .i64) h_17 (p1.add 1) fun (To12 : Int) =>
            Ix Till To12 1 fun e9 =>
            Ld (.int .i64) h_17 e9 fun (x6 : Int) =>
            (bif decide (till > x6) then
              Nn f fun p19 =>
              Ld .sl h_17 (p19.add 5) fun (Till1 : Sl) =>
              Ld (.int .i64) h_17 (p1.add 1) fun (To13 : Int) =>
              Ix Till1 To13 1 fun e10 =>
              St h_17 e10 (.int .i64 till) fun h_18 =>
              R 0 h_18
            else
              R 0 h_17
            )
          else
            R 0 h_17
          )
        )
      )
    )
    ) fun J =>
  (bif decide (i < 0) then
    J true h
  else
    Nn f fun p20 =>
    Ld .sl h (p20.add 9) fun (Flight3 : Sl) =>
    J (decide (i ≥ (Flight3.n : Int))) h
  )
theorem E_ref30_Field_Deliver (f : Option Addr) (i : Int) (h : Heap) (R : Int → Heap → Prop) :
    VF Try.prog [(12, [(17, .one .bool)]), (1000, [(60, .one .bool)]), (1001, [])] Try.f62 [.pointer f, .int .i64 i] h [.one (.int .i64)] R = S_ref30_Field_Deliver f i h R := by kernel_rfl
theorem A_ref30_Field_Deliver {f : Option Addr} {i : Int} {h : Heap} {R : Int → Heap → Prop} (hs : S_ref30_Field_Deliver f i h R) : C_ref30_Field_Deliver f i h R :=
  use_ Try.func62 (by kernel_rfl) (E_ref30_Field_Deliver f i h R) hs

/-- (*kissinggateref30.Field).granted -/
def S_ref30_Field_granted (f : Option Addr) (to : Int) (round : Int) (h : Heap) (R : Int → Heap → Prop) : Prop :=
  Nn f fun p =>
  Ld .sl h (p.add 2) fun (Clock : Sl) =>
  Loop [.one (.int .i64), .one (.int .i64)] (fun _ (n : Int) (x17 : Int) h_ go =>
    (bif decide (x17 < (Clock.n : Int)) then
      Nn f fun p1 =>
      Ld .sl h_ (p1.add 8) fun (Grants : Sl) =>
      Loop [.one (.int .i64), .one (.int .i64)] (fun _ (yes : Int) (x25 : Int) h_1 go1 =>
        (bif decide (x25 < (Grants.n : Int)) then
          Ix Grants x25 3 fun e =>
          Ld (.int .i64) h_1 e fun (x_From : Int) =>
          Ld (.int .i64) h_1 (e.add 1) fun (x_To : Int) =>
          Ld (.int .i64) h_1 (e.add 2) fun (x_Round : Int) =>
          Alloc h_1 (.cells #[.int .i64 0, .int .i64 0, .int .i64 0] 120) fun g h_2 =>
          St h_2 g (.int .i64 x_From) fun h_3 =>
          St h_3 (g.add 1) (.int .i64 x_To) fun h_4 =>
          St h_4 (g.add 2) (.int .i64 x_Round) fun h_5 =>
          Ld (.int .i64) h_5 g fun (From : Int) =>
          (bif From == x17 then
            Ld (.int .i64) h_5 (g.add 1) fun (To : Int) =>
            (bif To == to then
              Ld (.int .i64) h_5 (g.add 2) fun (Round : Int) =>
              (bif Round == round then
                go1 1 (IntKind.i64.wrap (x25 + 1)) h_5
              else
                go1 yes (IntKind.i64.wrap (x25 + 1)) h_5
              )
            else
              go1 yes (IntKind.i64.wrap (x25 + 1)) h_5
            )
          else
            go1 yes (IntKind.i64.wrap (x25 + 1)) h_5
          )
        else
          Let (IntKind.i64.wrap (n + yes) : Int) fun n1 =>
          go n1 (IntKind.i64.wrap (x17 + 1)) h_1
        )
        ) (0, 0, ()) h_
    else
      R n h_
    )
    ) (0, 0, ()) h
theorem E_ref30_Field_granted (f : Option Addr) (to : Int) (round : Int) (h : Heap) (R : Int → Heap → Prop) :
    VF Try.prog [(58, [(7, .one (.int .i64)), (17, .one (.int .i64))]), (59802, [(9, .one (.int .i64)), (25, .one (.int .i64))])] Try.f84 [.pointer f, .int .i64 to, .int .i64 round] h [.one (.int .i64)] R = S_ref30_Field_granted f to round h R := by kernel_rfl
theorem A_ref30_Field_granted {f : Option Addr} {to : Int} {round : Int} {h : Heap} {R : Int → Heap → Prop} (hs : S_ref30_Field_granted f to round h R) : C_ref30_Field_granted f to round h R :=
  use_ Try.func84 (by kernel_rfl) (E_ref30_Field_granted f to round h R) hs

end Go.Proofs.Ytegbnmaglkpkjaa
