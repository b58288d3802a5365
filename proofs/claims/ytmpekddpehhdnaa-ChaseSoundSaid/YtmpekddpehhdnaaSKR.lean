/- Printed by a program: what each function asks of the heap, that this is the reading of its code, and what follows for a call. -/
import Derived.Test.YtmpekddpehhdnaaSC
import Derived.Test.YtmpekddpehhdnaaVg
import Derived.Test.YtmpekddpehhdnaaProg
set_option maxRecDepth 1000000
namespace Go.Proofs.Ytmpekddpehhdnaa
open Go

theorem useG_SKR {an : List (Nat × Slots)} {f : FuncId} {fn : Func} {args : List Value} {h : Heap} {ss : List Sh} {R : TH (Heap → Prop) ss} {S : Prop} (hf : Try.prog.funcs[f]? = some fn) (hb : codeOk fn args.length = true) (e : VG Try.prog an fn args h ss R = S) (hs : S) : CallR Try.prog f args h ss R := VG_sound (an := an) mixed_ hf hb (cast e.symm hs)
/-- (*kissinggateref13.Graph).Victims -/
def S_ref13_Graph_Victims (g : Option Addr) (h : Heap) (R : Sl → Heap → Prop) : Prop :=
  C_ref13_Graph_Nodes g h fun (r : Sl) h_ =>
  Loop [.one .sl, .one (.int .i64)] (fun _ (out : Sl) (x9 : Int) h_1 go =>
    (bif decide (x9 < (r.n : Int)) then
      Ix r x9 1 fun e =>
      Ld (.int .i64) h_1 e fun (x : Int) =>
      C_ref13_Graph_way g x x x h_1 fun (r1 : Bool) h_2 =>
      (bif r1 then
        Alloc h_2 (.cells #[.int .i64 x] 3) fun b h_3 =>
        App Try.prog 53 53 out ⟨some b, 1, 1⟩ h_3 fun s h_4 =>
        go s (IntKind.i64.wrap (x9 + 1)) h_4
      else
        go out (IntKind.i64.wrap (x9 + 1)) h_2
      )
    else
      R out h_1
    )
    ) (⟨none, 0, 0⟩, 0, ()) h_
theorem E_ref13_Graph_Victims (g : Option Addr) (h : Heap) (R : Sl → Heap → Prop) :
    VF Try.prog [(58, [(3, .one .sl), (9, .one (.int .i64))])] Try.f51 [.pointer g] h [.one .sl] R = S_ref13_Graph_Victims g h R := by kernel_rfl
theorem A_ref13_Graph_Victims {g : Option Addr} {h : Heap} {R : Sl → Heap → Prop} (hs : S_ref13_Graph_Victims g h R) : C_ref13_Graph_Victims g h R :=
  use_ Try.func51 (by kernel_rfl) (E_ref13_Graph_Victims g h R) hs

/-- (*kissinggateref14.Field).Node -/
def S_ref14_Field_Node (f : Option Addr) (id : Int) (stamp : Int) (site : Int) (h : Heap) (R : Int → Heap → Prop) : Prop :=
  Join [.one .bool] (fun _ (x30 : Bool) h_ =>
    (bif x30 then
      R 1 h_
    else
      C_ref14_Field_place f id h_ fun (r : Int) h_1 =>
      (bif decide (r ≥ 0) then
        R 8 h_1
      else
        Nn f fun p =>
        Ld .sl h_1 (p.add 1) fun (N : Sl) =>
        (bif decide ((N.n : Int) ≥ 64) then
          R 7 h_1
        else
          Nn f fun p1 =>
          Ld .sl h_1 (p1.add 1) fun (N1 : Sl) =>
          Alloc h_1 (.cells #[.int .i64 id, .int .i64 stamp, .int .i64 site, .int .i64 0] 108) fun b h_2 =>
          App Try.prog 92 92 N1 ⟨some b, 1, 1⟩ h_2 fun s h_3 =>
          Nn f fun p2 =>
          St h_3 (p2.add 1) (.slice s.a s.n s.c) fun h_4 =>
          R 0 h_4
        )
      )
    )
    ) fun J =>
  (bif decide (id < 0) then
    J true h
  else
    (bif decide (stamp < 0) then
      J true h
    else
      (bif decide (stamp > 1099511627776) then
        J true h
      else
        (bif decide (site < 0) then
          J true h
        else
          Nn f fun p3 =>
          Ld (.int .i64) h p3 fun (Sites : Int) =>
          J (decide (site ≥ Sites)) h
        )
      )
    )
  )
theorem E_ref14_Field_Node (f : Option Addr) (id : Int) (stamp : Int) (site : Int) (h : Heap) (R : Int → Heap → Prop) :
    VF Try.prog [(12, [(30, .one .bool)])] Try.f92 [.pointer f, .int .i64 id, .int .i64 stamp, .int .i64 site] h [.one (.int .i64)] R = S_ref14_Field_Node f id stamp site h R := by kernel_rfl
theorem A_ref14_Field_Node {f : Option Addr} {id : Int} {stamp : Int} {site : Int} {h : Heap} {R : Int → Heap → Prop} (hs : S_ref14_Field_Node f id stamp site h R) : C_ref14_Field_Node f id stamp site h R :=
  use_ Try.func92 (by kernel_rfl) (E_ref14_Field_Node f id stamp site h R) hs

/-- (*kissinggateref14.Field).Edge -/
def S_ref14_Field_Edge (f : Option Addr) (from_ : Int) (to : Int) (h : Heap) (R : Int → Heap → Prop) : Prop :=
  (bif from_ == to then
    R 1 h
  else
    Join [.one .bool] (fun _ (x22 : Bool) h_ =>
      (bif x22 then
        R 6 h_
      else
        Join [.one (.int .i64)] (fun _ (at_ : Int) h_1 =>
          Nn f fun p =>
          Ld .sl h_1 (p.add 2) fun (E : Sl) =>
          Loop [.one (.int .i64)] (fun _ (x49 : Int) h_2 go =>
            (bif decide (x49 < (E.n : Int)) then
              Ix E x49 2 fun e =>
              Ld (.int .i64) h_2 e fun (x_From : Int) =>
              Ld (.int .i64) h_2 (e.add 1) fun (x_To : Int) =>
              Alloc h_2 (.cells #[.int .i64 0, .int .i64 0] 30) fun e1 h_3 =>
              St h_3 e1 (.int .i64 x_From) fun h_4 =>
              St h_4 (e1.add 1) (.int .i64 x_To) fun h_5 =>
              Ld (.int .i64) h_5 e1 fun (From : Int) =>
              (bif From == from_ then
                Ld (.int .i64) h_5 (e1.add 1) fun (To : Int) =>
                (bif To == to then
                  R 0 h_5
                else
                  go (IntKind.i64.wrap (x49 + 1)) h_5
                )
              else
                go (IntKind.i64.wrap (x49 + 1)) h_5
              )
            else
              Nn f fun p1 =>
              Ld .sl h_2 (p1.add 2) fun (E1 : Sl) =>
              Cut Try.prog 23 E1 none (some (.int .i64 at_)) none fun s =>
              Nn f fun p2 =>
              Ld .sl h_2 (p2.add 2) fun (E2 : Sl) =>
              Cut Try.prog 23 E2 (some (.int .i64 at_)) none none fun s1 =>
              (
                Alloc h_2 (.cells #[] 30) fun b h_6 =>
                (Ld .sl h_6 (p1.add 2) fun (E3 : Sl) => (.slice E3.a E3.n E3.c : Value) = .slice E1.a E1.n E1.c) ∧
                (Ld .sl h_6 (p2.add 2) fun (E4 : Sl) => (.slice E4.a E4.n E4.c : Value) = .slice E2.a E2.n E2.c) ∧
                (
                  App Try.prog 23 23 ⟨some b, 0, 0⟩ s h_6 fun s2 h_7 =>
                  (Ld .sl h_7 (p2.add 2) fun (E5 : Sl) => (.slice E5.a E5.n E5.c : Value) = .slice E2.a E2.n E2.c) ∧
                  Alloc h_7 (.cells #[.int .i64 from_, .int .i64 to] 30) fun b1 h_8 =>
                  (Ld .sl h_8 (p1.add 2) fun (E6 : Sl) => (.slice E6.a E6.n E6.c : Value) = .slice E1.a E1.n E1.c) ∧
                  (Ld .sl h_8 (p2.add 2) fun (E7 : Sl) => (.slice E7.a E7.n E7.c : Value) = .slice E2.a E2.n E2.c) ∧
                  App Try.prog 23 23 s2 ⟨some b1, 1, 1⟩ h_8 fun s3 h_9 =>
                  (Ld .sl h_9 (p2.add 2) fun (E8 : Sl) => (.slice E8.a E8.n E8.c : Value) = .slice E2.a E2.n E2.c) ∧
                  App Try.prog 23 23 s3 s1 h_9 fun s4 h_10 =>
                  Nn f fun p3 =>
                  St h_10 (p3.add 2) (.slice s4.a s4.n s4.c) fun h_11 =>
                  R 0 h_11
                ) ∧
                (
                  Alloc h_6 (.cells #[.int .i64 from_, .int .i64 to] 30) fun b2 h_12 =>
                  (Ld .sl h_12 (p1.add 2) fun (E9 : Sl) => (.slice E9.a E9.n E9.c : Value) = .slice E1.a E1.n E1.c) ∧
                  (Ld .sl h_12 (p2.add 2) fun (E10 : Sl) => (.slice E10.a E10.n E10.c : Value) = .slice E2.a E2.n E2.c) ∧
                  App Try.prog 23 23 ⟨some b, 0, 0⟩ s h_12 fun s5 h_13 =>
                  (Ld .sl h_13 (p2.add 2) fun (E11 : Sl) => (.slice E11.a E11.n E11.c : Value) = .slice E2.a E2.n E2.c) ∧
                  App Try.prog 23 23 s5 ⟨some b2, 1, 1⟩ h_13 fun s6 h_14 =>
                  (Ld .sl h_14 (p2.add 2) fun (E12 : Sl) => (.slice E12.a E12.n E12.c : Value) = .slice E2.a E2.n E2.c) ∧
                  App Try.prog 23 23 s6 s1 h_14 fun s7 h_15 =>
                  Nn f fun p4 =>
                  St h_15 (p4.add 2) (.slice s7.a s7.n s7.c) fun h_16 =>
                  R 0 h_16
                )
              ) ∧
              (
                Alloc h_2 (.cells #[.int .i64 from_, .int .i64 to] 30) fun b3 h_17 =>
                (Ld .sl h_17 (p1.add 2) fun (E13 : Sl) => (.slice E13.a E13.n E13.c : Value) = .slice E1.a E1.n E1.c) ∧
                (Ld .sl h_17 (p2.add 2) fun (E14 : Sl) => (.slice E14.a E14.n E14.c : Value) = .slice E2.a E2.n E2.c) ∧
                Alloc h_17 (.cells #[] 30) fun b4 h_18 =>
                (Ld .sl h_18 (p1.add 2) fun (E15 : Sl) => (.slice E15.a E15.n E15.c : Value) = .slice E1.a E1.n E1.c) ∧
                (Ld .sl h_18 (p2.add 2) fun (E16 : Sl) => (.slice E16.a E16.n E16.c : Value) = .slice E2.a E2.n E2.c) ∧
                App Try.prog 23 23 ⟨some b4, 0, 0⟩ s h_18 fun s8 h_19 =>
                (Ld .sl h_19 (p2.add 2) fun (E17 : Sl) => (.slice E17.a E17.n E17.c : Value) = .slice E2.a E2.n E2.c) ∧
                App Try.prog 23 23 s8 ⟨some b3, 1, 1⟩ h_19 fun s9 h_20 =>
                (Ld .sl h_20 (p2.add 2) fun (E18 : Sl) => (.slice E18.a E18.n E18.c : Value) = .slice E2.a E2.n E2.c) ∧
                App Try.prog 23 23 s9 s1 h_20 fun s10 h_21 =>
                Nn f fun p5 =>
                St h_21 (p5.add 2) (.slice s10.a s10.n s10.c) fun h_22 =>
                R 0 h_22
              )
            )
            ) (0, ()) h_1
          ) fun J1 =>
        Loop [.one (.int .i64)] (fun _ (at_1 : Int) h_23 go1 =>
          Nn f fun p6 =>
          Ld .sl h_23 (p6.add 2) fun (E19 : Sl) =>
          (bif decide (at_1 < (E19.n : Int)) then
            Nn f fun p7 =>
            Ld .sl h_23 (p7.add 2) fun (E20 : Sl) =>
            Ix E20 at_1 2 fun e2 =>
            Ld (.int .i64) h_23 (e2.add 1) fun (To1 : Int) =>
            (bif decide (To1 < to) then
              Let (IntKind.i64.wrap (at_1 + 1) : Int) fun at_2 =>
              go1 at_2 h_23
            else
              J1 at_1 h_23
            )
          else
            J1 at_1 h_23
          )
          ) (0, ()) h_
      )
      ) fun J =>
    C_ref14_Field_place f from_ h fun (r : Int) h_24 =>
    (bif decide (r < 0) then
      J true h_24
    else
      C_ref14_Field_place f to h_24 fun (r1 : Int) h_25 =>
      J (decide (r1 < 0)) h_25
    )
  )
theorem E_ref14_Field_Edge (f : Option Addr) (from_ : Int) (to : Int) (h : Heap) (R : Int → Heap → Prop) :
    VF Try.prog [(28, [(22, .one .bool)]), (62, [(7, .one (.int .i64))]), (506, [(49, .one (.int .i64))]), (124, [(7, .one (.int .i64))])] Try.f93 [.pointer f, .int .i64 from_, .int .i64 to] h [.one (.int .i64)] R = S_ref14_Field_Edge f from_ to h R := by kernel_rfl
theorem A_ref14_Field_Edge {f : Option Addr} {from_ : Int} {to : Int} {h : Heap} {R : Int → Heap → Prop} (hs : S_ref14_Field_Edge f from_ to h R) : C_ref14_Field_Edge f from_ to h R :=
  use_ Try.func93 (by kernel_rfl) (E_ref14_Field_Edge f from_ to h R) hs

/-- (*kissinggateref14.Field).Begin -/
def S_ref14_Field_Begin (f : Option Addr) (id : Int) (h : Heap) (R : Int → Int → Heap → Prop) : Prop :=
  C_ref14_Field_place f id h fun (r : Int) h_ =>
  (bif decide (r < 0) then
    R 0 6 h_
  else
    Nn f fun p =>
    Ld .sl h_ (p.add 1) fun (N : Sl) =>
    Nn f fun p1 =>
    Ld .sl h_ (p1.add 1) fun (N1 : Sl) =>
    Ix N1 r 4 fun e =>
    Ld (.int .i64) h_ (e.add 3) fun (Round : Int) =>
    Ix N r 4 fun e1 =>
    St h_ (e1.add 3) (.int .i64 (IntKind.i64.wrap (Round + 1))) fun h_1 =>
    Nn f fun p2 =>
    Ld .sl h_1 (p2.add 1) fun (N2 : Sl) =>
    Ix N2 r 4 fun e2 =>
    Ld (.int .i64) h_1 (e2.add 1) fun (Stamp : Int) =>
    Nn f fun p3 =>
    Ld .sl h_1 (p3.add 1) fun (N3 : Sl) =>
    Ix N3 r 4 fun e3 =>
    Ld (.int .i64) h_1 (e3.add 3) fun (Round1 : Int) =>
    C_ref14_Field_send f id (id, Stamp, Round1, 0, ()) h_1 fun h_2 =>
    Nn f fun p4 =>
    Ld .sl h_2 (p4.add 1) fun (N4 : Sl) =>
    Ix N4 r 4 fun e4 =>
    Ld (.int .i64) h_2 (e4.add 3) fun (Round2 : Int) =>
    R Round2 0 h_2
  )
theorem E_ref14_Field_Begin (f : Option Addr) (id : Int) (h : Heap) (R : Int → Int → Heap → Prop) :
    VF Try.prog [] Try.f94 [.pointer f, .int .i64 id] h [.one (.int .i64), .one (.int .i64)] R = S_ref14_Field_Begin f id h R := by kernel_rfl
theorem A_ref14_Field_Begin {f : Option Addr} {id : Int} {h : Heap} {R : Int → Int → Heap → Prop} (hs : S_ref14_Field_Begin f id h R) : C_ref14_Field_Begin f id h R :=
  use_ Try.func94 (by kernel_rfl) (E_ref14_Field_Begin f id h R) hs

/-- (*kissinggateref14.Field).Take -/
def S_ref14_Field_Take (f : Option Addr) (i : Int) (h : Heap) (R : KL [.int .i64, .int .i64, .int .i64, .int .i64] → Int → Heap → Prop) : Prop :=
  Alloc h (.cells #[.int .i64 0, .int .i64 0, .int .i64 0, .int .i64 0] 37) fun p h_ =>
  Join [.one .bool] (fun _ (x17 : Bool) h_1 =>
    (bif x17 then
      St h_1 p (.int .i64 0) fun h_2 =>
      St h_2 (p.add 1) (.int .i64 0) fun h_3 =>
      St h_3 (p.add 2) (.int .i64 0) fun h_4 =>
      St h_4 (p.add 3) (.int .i64 0) fun h_5 =>
      Ld (.int .i64) h_5 p fun (r_0 : Int) =>
      Ld (.int .i64) h_5 (p.add 1) fun (r_1 : Int) =>
      Ld (.int .i64) h_5 (p.add 2) fun (r_2 : Int) =>
      Ld (.int .i64) h_5 (p.add 3) fun (r_3 : Int) =>
      R (r_0, r_1, r_2, r_3, ()) 6 h_5
    else
      Nn f fun p1 =>
      Ld .sl h_1 (p1.add 4) fun (Flight : Sl) =>
      Ix Flight i 4 fun e =>
      Ld (.int .i64) h_1 e fun (x_Start : Int) =>
      Ld (.int .i64) h_1 (e.add 1) fun (x_Stamp : Int) =>
      Ld (.int .i64) h_1 (e.add 2) fun (x_Round : Int) =>
      Ld (.int .i64) h_1 (e.add 3) fun (x_At : Int) =>
      Alloc h_1 (.cells #[.int .i64 0, .int .i64 0, .int .i64 0, .int .i64 0] 37) fun p2 h_6 =>
      St h_6 p2 (.int .i64 x_Start) fun h_7 =>
      St h_7 (p2.add 1) (.int .i64 x_Stamp) fun h_8 =>
      St h_8 (p2.add 2) (.int .i64 x_Round) fun h_9 =>
      St h_9 (p2.add 3) (.int .i64 x_At) fun h_10 =>
      Nn f fun p3 =>
      Ld .sl h_10 (p3.add 4) fun (Flight1 : Sl) =>
      Cut Try.prog 34 Flight1 none (some (.int .i64 i)) none fun s =>
      Nn f fun p4 =>
      Ld .sl h_10 (p4.add 4) fun (Flight2 : Sl) =>
      Cut Try.prog 34 Flight2 (some (.int .i64 (IntKind.i64.wrap (i + 1)))) none none fun s1 =>
      Alloc h_10 (.cells #[] 37) fun b h_11 =>
      (Ld .sl h_11 (p3.add 4) fun (Flight3 : Sl) => (.slice Flight3.a Flight3.n Flight3.c : Value) = .slice Flight1.a Flight1.n Flight1.c) ∧
      (Ld .sl h_11 (p4.add 4) fun (Flight4 : Sl) => (.slice Flight4.a Flight4.n Flight4.c : Value) = .slice Flight2.a Flight2.n Flight2.c) ∧
      App Try.prog 34 34 ⟨some b, 0, 0⟩ s h_11 fun s2 h_12 =>
      (Ld .sl h_12 (p4.add 4) fun (Flight5 : Sl) => (.slice Flight5.a Flight5.n Flight5.c : Value) = .slice Flight2.a Flight2.n Flight2.c) ∧
      App Try.prog 34 34 s2 s1 h_12 fun s3 h_13 =>
      Nn f fun p5 =>
      St h_13 (p5.add 4) (.slice s3.a s3.n s3.c) fun h_14 =>
      Ld (.int .i64) h_14 p2 fun (x_Start1 : Int) =>
      Ld (.int .i64) h_14 (p2.add 1) fun (x_Stamp1 : Int) =>
      Ld (.int .i64) h_14 (p2.add 2) fun (x_Round1 : Int) =>
      Ld (.int .i64) h_14 (p2.add 3) fun (x_At1 : Int) =>
      St h_14 p (.int .i64 x_Start1) fun h_15 =>
      St h_15 (p.add 1) (.int .i64 x_Stamp1) fun h_16 =>
      St h_16 (p.add 2) (.int .i64 x_Round1) fun h_17 =>
      St h_17 (p.add 3) (.int .i64 x_At1) fun h_18 =>
      Ld (.int .i64) h_18 p fun (r_01 : Int) =>
      Ld (.int .i64) h_18 (p.add 1) fun (r_11 : Int) =>
      Ld (.int .i64) h_18 (p.add 2) fun (r_21 : Int) =>
      Ld (.int .i64) h_18 (p.add 3) fun (r_31 : Int) =>
      R (r_01, r_11, r_21, r_31, ()) 0 h_18
    )
    ) fun J =>
  (bif decide (i < 0) then
    J true h_
  else
    Nn f fun p6 =>
    Ld .sl h_ (p6.add 4) fun (Flight6 : Sl) =>
    J (decide (i ≥ (Flight6.n : Int))) h_
  )
theorem E_ref14_Field_Take (f : Option Addr) (i : Int) (h : Heap) (R : KL [.int .i64, .int .i64, .int .i64, .int .i64] → Int → Heap → Prop) :
    VG Try.prog [(12, [(17, .one .bool)])] Try.f95 [.pointer f, .int .i64 i] h [.agg [.int .i64, .int .i64, .int .i64, .int .i64], .one (.int .i64)] R = S_ref14_Field_Take f i h R := by kernel_rfl
theorem A_ref14_Field_Take {f : Option Addr} {i : Int} {h : Heap} {R : KL [.int .i64, .int .i64, .int .i64, .int .i64] → Int → Heap → Prop} (hs : S_ref14_Field_Take f i h R) : C_ref14_Field_Take f i h R :=
  useG_SKR Try.func95 (by kernel_rfl) (E_ref14_Field_Take f i h R) hs

/-- (*kissinggateref14.Field).Double -/
def S_ref14_Field_Double (f : Option Addr) (i : Int) (h : Heap) (R : Int → Heap → Prop) : Prop :=
  Join [.one .bool] (fun _ (x15 : Bool) h_ =>
    (bif x15 then
      R 6 h_
    else
      Nn f fun p =>
      Ld .sl h_ (p.add 4) fun (Flight : Sl) =>
      Nn f fun p1 =>
      Ld .sl h_ (p1.add 4) fun (Flight1 : Sl) =>
      Ix Flight1 i 4 fun e =>
      Ld (.int .i64) h_ e fun (x_Start : Int) =>
      Ld (.int .i64) h_ (e.add 1) fun (x_Stamp : Int) =>
      Ld (.int .i64) h_ (e.add 2) fun (x_Round : Int) =>
      Ld (.int .i64) h_ (e.add 3) fun (x_At : Int) =>
      Alloc h_ (.cells #[.int .i64 x_Start, .int .i64 x_Stamp, .int .i64 x_Round, .int .i64 x_At] 37) fun b h_1 =>
      (Ld .sl h_1 (p.add 4) fun (Flight2 : Sl) => (.slice Flight2.a Flight2.n Flight2.c : Value) = .slice Flight.a Flight.n Flight.c) ∧
      App Try.prog 34 34 Flight ⟨some b, 1, 1⟩ h_1 fun s h_2 =>
      Nn f fun p2 =>
      St h_2 (p2.add 4) (.slice s.a s.n s.c) fun h_3 =>
      R 0 h_3
    )
    ) fun J =>
  (bif decide (i < 0) then
    J true h
  else
    Nn f fun p3 =>
    Ld .sl h (p3.add 4) fun (Flight3 : Sl) =>
    J (decide (i ≥ (Flight3.n : Int))) h
  )
theorem E_ref14_Field_Double (f : Option Addr) (i : Int) (h : Heap) (R : Int → Heap → Prop) :
    VF Try.prog [(12, [(15, .one .bool)])] Try.f98 [.pointer f, .int .i64 i] h [.one (.int .i64)] R = S_ref14_Field_Double f i h R := by kernel_rfl
theorem A_ref14_Field_Double {f : Option Addr} {i : Int} {h : Heap} {R : Int → Heap → Prop} (hs : S_ref14_Field_Double f i h R) : C_ref14_Field_Double f i h R :=
  use_ Try.func98 (by kernel_rfl) (E_ref14_Field_Double f i h R) hs

/-- (*kissinggateref14.Field).Deliver -/
def S_ref14_Field_Deliver (f : Option Addr) (i : Int) (h : Heap) (R : Int → Bool → Int → Heap → Prop) : Prop :=
  C_ref14_Field_Take f i h fun (r : KL [.int .i64, .int .i64, .int .i64, .int .i64]) (r1 : Int) h_ =>
  Alloc h_ (.cells #[.int .i64 0, .int .i64 0, .int .i64 0, .int .i64 0] 37) fun p h_1 =>
  St h_1 p (.int .i64 r.1) fun h_2 =>
  St h_2 (p.add 1) (.int .i64 r.2.1) fun h_3 =>
  St h_3 (p.add 2) (.int .i64 r.2.2.1) fun h_4 =>
  St h_4 (p.add 3) (.int .i64 r.2.2.2.1) fun h_5 =>
  (bif r1 != 0 then
    R 0 false r1 h_5
  else
    Ld (.int .i64) h_5 (p.add 3) fun (At_ : Int) =>
    Ld (.int .i64) h_5 p fun (Start : Int) =>
    (bif At_ == Start then
      Join [.one (.int .i64)] (fun _ (at_ : Int) h_6 =>
        Join [.one .bool] (fun _ (x65 : Bool) h_7 =>
          Join [] (fun _ h_8 =>
            Ld (.int .i64) h_8 p fun (Start1 : Int) =>
            R Start1 true 0 h_8
            ) fun J2 =>
          (bif x65 then
            Nn f fun p1 =>
            Ld .sl h_7 (p1.add 5) fun (Victims : Sl) =>
            Cut Try.prog 53 Victims none (some (.int .i64 at_)) none fun s =>
            Ld (.int .i64) h_7 p fun (Start2 : Int) =>
            Nn f fun p2 =>
            Ld .sl h_7 (p2.add 5) fun (Victims1 : Sl) =>
            Cut Try.prog 53 Victims1 (some (.int .i64 at_)) none none fun s1 =>
            (
              Alloc h_7 (.cells #[] 3) fun b h_9 =>
              (Ld .sl h_9 (p1.add 5) fun (Victims2 : Sl) => (.slice Victims2.a Victims2.n Victims2.c : Value) = .slice Victims.a Victims.n Victims.c) ∧
              (Ld (.int .i64) h_9 p fun (Start3 : Int) => (.int .i64 Start3 : Value) = .int .i64 Start2) ∧
              (Ld .sl h_9 (p2.add 5) fun (Victims3 : Sl) => (.slice Victims3.a Victims3.n Victims3.c : Value) = .slice Victims1.a Victims1.n Victims1.c) ∧
              (
                App Try.prog 53 53 ⟨some b, 0, 0⟩ s h_9 fun s2 h_10 =>
                (Ld (.int .i64) h_10 p fun (Start4 : Int) => (.int .i64 Start4 : Value) = .int .i64 Start2) ∧
                (Ld .sl h_10 (p2.add 5) fun (Victims4 : Sl) => (.slice Victims4.a Victims4.n Victims4.c : Value) = .slice Victims1.a Victims1.n Victims1.c) ∧
                Alloc h_10 (.cells #[.int .i64 Start2] 3) fun b1 h_11 =>
                (Ld .sl h_11 (p1.add 5) fun (Victims5 : Sl) => (.slice Victims5.a Victims5.n Victims5.c : Value) = .slice Victims.a Victims.n Victims.c) ∧
                (Ld .sl h_11 (p2.add 5) fun (Victims6 : Sl) => (.slice Victims6.a Victims6.n Victims6.c : Value) = .slice Victims1.a Victims1.n Victims1.c) ∧
                App Try.prog 53 53 s2 ⟨some b1, 1, 1⟩ h_11 fun s3 h_12 =>
                (Ld .sl h_12 (p2.add 5) fun (Victims7 : Sl) => (.slice Victims7.a Victims7.n Victims7.c : Value) = .slice Victims1.a Victims1.n Victims1.c) ∧
                App Try.prog 53 53 s3 s1 h_12 fun s4 h_13 =>
                Nn f fun p3 =>
                St h_13 (p3.add 5) (.slice s4.a s4.n s4.c) fun h_14 =>
                J2  h_14
              ) ∧
              (
                Alloc h_9 (.cells #[.int .i64 Start2] 3) fun b2 h_15 =>
                (Ld .sl h_15 (p1.add 5) fun (Victims8 : Sl) => (.slice Victims8.a Victims8.n Victims8.c : Value) = .slice Victims.a Victims.n Victims.c) ∧
                (Ld .sl h_15 (p2.add 5) fun (Victims9 : Sl) => (.slice Victims9.a Victims9.n Victims9.c : Value) = .slice Victims1.a Victims1.n Victims1.c) ∧
                App Try.prog 53 53 ⟨some b, 0, 0⟩ s h_15 fun s5 h_16 =>
                (Ld (.int .i64) h_16 p fun (Start5 : Int) => (.int .i64 Start5 : Value) = .int .i64 Start2) ∧
                (Ld .sl h_16 (p2.add 5) fun (Victims10 : Sl) => (.slice Victims10.a Victims10.n Victims10.c : Value) = .slice Victims1.a Victims1.n Victims1.c) ∧
                App Try.prog 53 53 s5 ⟨some b2, 1, 1⟩ h_16 fun s6 h_17 =>
                (Ld .sl h_17 (p2.add 5) fun (Victims11 : Sl) => (.slice Victims11.a Victims11.n Victims11.c : Value) = .slice Victims1.a Victims1.n Victims1.c) ∧
                App Try.prog 53 53 s6 s1 h_17 fun s7 h_18 =>
                Nn f fun p4 =>
                St h_18 (p4.add 5) (.slice s7.a s7.n s7.c) fun h_19 =>
                J2  h_19
              )
            ) ∧
            (
              Alloc h_7 (.cells #[.int .i64 Start2] 3) fun b3 h_20 =>
              (Ld .sl h_20 (p1.add 5) fun (Victims12 : Sl) => (.slice Victims12.a Victims12.n Victims12.c : Value) = .slice Victims.a Victims.n Victims.c) ∧
              (Ld .sl h_20 (p2.add 5) fun (Victims13 : Sl) => (.slice Victims13.a Victims13.n Victims13.c : Value) = .slice Victims1.a Victims1.n Victims1.c) ∧
              Alloc h_20 (.cells #[] 3) fun b4 h_21 =>
              (Ld .sl h_21 (p1.add 5) fun (Victims14 : Sl) => (.slice Victims14.a Victims14.n Victims14.c : Value) = .slice Victims.a Victims.n Victims.c) ∧
              (Ld (.int .i64) h_21 p fun (Start6 : Int) => (.int .i64 Start6 : Value) = .int .i64 Start2) ∧
              (Ld .sl h_21 (p2.add 5) fun (Victims15 : Sl) => (.slice Victims15.a Victims15.n Victims15.c : Value) = .slice Victims1.a Victims1.n Victims1.c) ∧
              App Try.prog 53 53 ⟨some b4, 0, 0⟩ s h_21 fun s8 h_22 =>
              (Ld (.int .i64) h_22 p fun (Start7 : Int) => (.int .i64 Start7 : Value) = .int .i64 Start2) ∧
              (Ld .sl h_22 (p2.add 5) fun (Victims16 : Sl) => (.slice Victims16.a Victims16.n Victims16.c : Value) = .slice Victims1.a Victims1.n Victims1.c) ∧
              App Try.prog 53 53 s8 ⟨some b3, 1, 1⟩ h_22 fun s9 h_23 =>
              (Ld .sl h_23 (p2.add 5) fun (Victims17 : Sl) => (.slice Victims17.a Victims17.n Victims17.c : Value) = .slice Victims1.a Victims1.n Victims1.c) ∧
              App Try.prog 53 53 s9 s1 h_23 fun s10 h_24 =>
              Nn f fun p5 =>
              St h_24 (p5.add 5) (.slice s10.a s10.n s10.c) fun h_25 =>
              J2  h_25
            )
          else
            J2  h_7
          )
          ) fun J1 =>
        Nn f fun p6 =>
        Ld .sl h_6 (p6.add 5) fun (Victims18 : Sl) =>
        (bif at_ == (Victims18.n : Int) then
          J1 true h_6
        else
          Nn f fun p7 =>
          Ld .sl h_6 (p7.add 5) fun (Victims19 : Sl) =>
          Ix Victims19 at_ 1 fun e =>
          Ld (.int .i64) h_6 e fun (x : Int) =>
          Ld (.int .i64) h_6 p fun (Start8 : Int) =>
          J1 (x != Start8) h_6
        )
        ) fun J =>
      Loop [.one (.int .i64)] (fun _ (at_1 : Int) h_26 go =>
        Nn f fun p8 =>
        Ld .sl h_26 (p8.add 5) fun (Victims20 : Sl) =>
        (bif decide (at_1 < (Victims20.n : Int)) then
          Nn f fun p9 =>
          Ld .sl h_26 (p9.add 5) fun (Victims21 : Sl) =>
          Ix Victims21 at_1 1 fun e1 =>
          Ld (.int .i64) h_26 e1 fun (x1 : Int) =>
          Ld (.int .i64) h_26 p fun (Start9 : Int) =>
          (bif decide (x1 < Start9) then
            Let (IntKind.i64.wrap (at_1 + 1) : Int) fun at_2 =>
            go at_2 h_26
          else
            J at_1 h_26
          )
        else
          J at_1 h_26
        )
        ) (0, ()) h_5
    else
      Nn f fun p10 =>
      Ld .sl h_5 (p10.add 3) fun (Had : Sl) =>
      Loop [.one (.int .i64)] (fun _ (x95 : Int) h_27 go1 =>
        (bif decide (x95 < (Had.n : Int)) then
          Ix Had x95 3 fun e2 =>
          Ld (.int .i64) h_27 e2 fun (x_Start : Int) =>
          Ld (.int .i64) h_27 (e2.add 1) fun (x_At : Int) =>
          Ld (.int .i64) h_27 (e2.add 2) fun (x_Round : Int) =>
          Alloc h_27 (.cells #[.int .i64 0, .int .i64 0, .int .i64 0] 176) fun s11 h_28 =>
          St h_28 s11 (.int .i64 x_Start) fun h_29 =>
          St h_29 (s11.add 1) (.int .i64 x_At) fun h_30 =>
          St h_30 (s11.add 2) (.int .i64 x_Round) fun h_31 =>
          Ld (.int .i64) h_31 s11 fun (Start10 : Int) =>
          Ld (.int .i64) h_31 p fun (Start11 : Int) =>
          (bif Start10 == Start11 then
            Ld (.int .i64) h_31 (s11.add 1) fun (At_1 : Int) =>
            Ld (.int .i64) h_31 (p.add 3) fun (At_2 : Int) =>
            (bif At_1 == At_2 then
              Ld (.int .i64) h_31 (s11.add 2) fun (Round : Int) =>
              Ld (.int .i64) h_31 (p.add 2) fun (Round1 : Int) =>
              (bif decide (Round ≥ Round1) then
                R 0 false 0 h_31
              else
                go1 (IntKind.i64.wrap (x95 + 1)) h_31
              )
            else
              go1 (IntKind.i64.wrap (x95 + 1)) h_31
            )
          else
            go1 (IntKind.i64.wrap (x95 + 1)) h_31
          )
        else
          Nn f fun p11 =>
          Ld .sl h_27 (p11.add 3) fun (Had1 : Sl) =>
          Ld (.int .i64) h_27 p fun (Start12 : Int) =>
          Ld (.int .i64) h_27 (p.add 3) fun (At_3 : Int) =>
          Ld (.int .i64) h_27 (p.add 2) fun (Round2 : Int) =>
          Alloc h_27 (.cells #[.int .i64 Start12, .int .i64 At_3, .int .i64 Round2] 176) fun b5 h_32 =>
          (Ld .sl h_32 (p11.add 3) fun (Had2 : Sl) => (.slice Had2.a Had2.n Had2.c : Value) = .slice Had1.a Had1.n Had1.c) ∧
          App Try.prog 93 93 Had1 ⟨some b5, 1, 1⟩ h_32 fun s12 h_33 =>
          Nn f fun p12 =>
          St h_33 (p12.add 3) (.slice s12.a s12.n s12.c) fun h_34 =>
          Ld (.int .i64) h_34 (p.add 3) fun (At_4 : Int) =>
          Ld (.int .i64) h_34 p fun (x_Start1 : Int) =>
          Ld (.int .i64) h_34 (p.add 1) fun (x_Stamp : Int) =>
          Ld (.int .i64) h_34 (p.add 2) fun (x_Round1 : Int) =>
          Ld (.int .i64) h_34 (p.add 3) fun (x_At1 : Int) =>
          C_ref14_Field_send f At_4 (x_Start1, x_Stamp, x_Round1, x_At1, ()) h_34 fun h_35 =>
          R 0 false 0 h_35
        )
        ) (0, ()) h_5
    )
  )
theorem E_ref14_Field_Deliver (f : Option Addr) (i : Int) (h : Heap) (R : Int → Bool → Int → Heap → Prop) :
    VF Try.prog [(490, [(9, .one (.int .i64))]), (1964, [(65, .one .bool)]), (1965, []), (980, [(9, .one (.int .i64))]), (250, [(95, .one (.int .i64))])] Try.f99 [.pointer f, .int .i64 i] h [.one (.int .i64), .one .bool, .one (.int .i64)] R = S_ref14_Field_Deliver f i h R := by kernel_rfl
theorem A_ref14_Field_Deliver {f : Option Addr} {i : Int} {h : Heap} {R : Int → Bool → Int → Heap → Prop} (hs : S_ref14_Field_Deliver f i h R) : C_ref14_Field_Deliver f i h R :=
  use_ Try.func99 (by kernel_rfl) (E_ref14_Field_Deliver f i h R) hs

/-- (*kissinggateref13.Graph).Nodes -/
def S_ref13_Graph_Nodes (g : Option Addr) (h : Heap) (R : Sl → Heap → Prop) : Prop :=
  Nn g fun p =>
  Ld .sl h p fun (N : Sl) =>
  Loop [.one .sl, .one (.int .i64)] (fun _ (out : Sl) (x12 : Int) h_ go =>
    (bif decide (x12 < (N.n : Int)) then
      Ix N x12 2 fun e =>
      Ld (.int .i64) h_ e fun (x_ID : Int) =>
      Ld (.int .i64) h_ (e.add 1) fun (x_Stamp : Int) =>
      Alloc h_ (.cells #[.int .i64 0, .int .i64 0] 162) fun n h_1 =>
      St h_1 n (.int .i64 x_ID) fun h_2 =>
      St h_2 (n.add 1) (.int .i64 x_Stamp) fun h_3 =>
      Join [.one (.int .i64)] (fun _ (at_ : Int) h_4 =>
        Cut Try.prog 53 out none (some (.int .i64 at_)) none fun s =>
        Ld (.int .i64) h_4 n fun (ID : Int) =>
        Cut Try.prog 53 out (some (.int .i64 at_)) none none fun s1 =>
        (
          Alloc h_4 (.cells #[] 3) fun b h_5 =>
          (Ld (.int .i64) h_5 n fun (ID1 : Int) => (.int .i64 ID1 : Value) = .int .i64 ID) ∧
          (
            App Try.prog 53 53 ⟨some b, 0, 0⟩ s h_5 fun s2 h_6 =>
            (Ld (.int .i64) h_6 n fun (ID2 : Int) => (.int .i64 ID2 : Value) = .int .i64 ID) ∧
            Alloc h_6 (.cells #[.int .i64 ID] 3) fun b1 h_7 =>
            App Try.prog 53 53 s2 ⟨some b1, 1, 1⟩ h_7 fun s3 h_8 =>
            App Try.prog 53 53 s3 s1 h_8 fun s4 h_9 =>
            go s4 (IntKind.i64.wrap (x12 + 1)) h_9
          ) ∧
          (
            Alloc h_5 (.cells #[.int .i64 ID] 3) fun b2 h_10 =>
            App Try.prog 53 53 ⟨some b, 0, 0⟩ s h_10 fun s5 h_11 =>
            (Ld (.int .i64) h_11 n fun (ID3 : Int) => (.int .i64 ID3 : Value) = .int .i64 ID) ∧
            App Try.prog 53 53 s5 ⟨some b2, 1, 1⟩ h_11 fun s6 h_12 =>
            App Try.prog 53 53 s6 s1 h_12 fun s7 h_13 =>
            go s7 (IntKind.i64.wrap (x12 + 1)) h_13
          )
        ) ∧
        (
          Alloc h_4 (.cells #[.int .i64 ID] 3) fun b3 h_14 =>
          Alloc h_14 (.cells #[] 3) fun b4 h_15 =>
          (Ld (.int .i64) h_15 n fun (ID4 : Int) => (.int .i64 ID4 : Value) = .int .i64 ID) ∧
          App Try.prog 53 53 ⟨some b4, 0, 0⟩ s h_15 fun s8 h_16 =>
          (Ld (.int .i64) h_16 n fun (ID5 : Int) => (.int .i64 ID5 : Value) = .int .i64 ID) ∧
          App Try.prog 53 53 s8 ⟨some b3, 1, 1⟩ h_16 fun s9 h_17 =>
          App Try.prog 53 53 s9 s1 h_17 fun s10 h_18 =>
          go s10 (IntKind.i64.wrap (x12 + 1)) h_18
        )
        ) fun J =>
      Loop [.one (.int .i64)] (fun _ (at_1 : Int) h_19 go1 =>
        (bif decide (at_1 < (out.n : Int)) then
          Ix out at_1 1 fun e1 =>
          Ld (.int .i64) h_19 e1 fun (x : Int) =>
          Ld (.int .i64) h_19 n fun (ID6 : Int) =>
          (bif decide (x < ID6) then
            Let (IntKind.i64.wrap (at_1 + 1) : Int) fun at_2 =>
            go1 at_2 h_19
          else
            J at_1 h_19
          )
        else
          J at_1 h_19
        )
        ) (0, ()) h_3
    else
      R out h_
    )
    ) (⟨none, 0, 0⟩, 0, ()) h
theorem E_ref13_Graph_Nodes (g : Option Addr) (h : Heap) (R : Sl → Heap → Prop) :
    VF Try.prog [(58, [(3, .one .sl), (12, .one (.int .i64))]), (14950, [(6, .one (.int .i64))]), (29900, [(6, .one (.int .i64))])] Try.f101 [.pointer g] h [.one .sl] R = S_ref13_Graph_Nodes g h R := by kernel_rfl
theorem A_ref13_Graph_Nodes {g : Option Addr} {h : Heap} {R : Sl → Heap → Prop} (hs : S_ref13_Graph_Nodes g h R) : C_ref13_Graph_Nodes g h R :=
  use_ Try.func101 (by kernel_rfl) (E_ref13_Graph_Nodes g h R) hs

/-- (*kissinggateref13.Graph).way -/
def S_ref13_Graph_way (g : Option Addr) (from_ : Int) (to : Int) (limit : Int) (h : Heap) (R : Bool → Heap → Prop) : Prop :=
  Alloc h (.cells #[] 3) fun b h_ =>
  Alloc h_ (.cells #[.int .i64 from_] 3) fun b1 h_1 =>
  Loop [.one .sl, .one .sl] (fun _ (seen : Sl) (todo : Sl) h_2 go =>
    (bif decide ((todo.n : Int) > 0) then
      Ix todo 0 1 fun e =>
      Ld (.int .i64) h_2 e fun (x : Int) =>
      Cut Try.prog 53 todo (some (.int .i64 1)) none none fun s =>
      Nn g fun p =>
      Ld .sl h_2 (p.add 1) fun (E : Sl) =>
      Loop [.one .sl, .one .sl, .one (.int .i64)] (fun _ (seen1 : Sl) (todo1 : Sl) (x33 : Int) h_3 go1 =>
        (bif decide (x33 < (E.n : Int)) then
          Ix E x33 2 fun e1 =>
          Ld (.int .i64) h_3 e1 fun (x_From : Int) =>
          Ld (.int .i64) h_3 (e1.add 1) fun (x_To : Int) =>
          Alloc h_3 (.cells #[.int .i64 0, .int .i64 0] 30) fun e2 h_4 =>
          St h_4 e2 (.int .i64 x_From) fun h_5 =>
          St h_5 (e2.add 1) (.int .i64 x_To) fun h_6 =>
          Ld (.int .i64) h_6 e2 fun (From : Int) =>
          (bif From != x then
            go1 seen1 todo1 (IntKind.i64.wrap (x33 + 1)) h_6
          else
            Ld (.int .i64) h_6 (e2.add 1) fun (To : Int) =>
            (bif To == to then
              R true h_6
            else
              Loop [.one .bool, .one (.int .i64)] (fun _ (known : Bool) (x47 : Int) h_7 go2 =>
                (bif decide (x47 < (seen1.n : Int)) then
                  Ix seen1 x47 1 fun e3 =>
                  Ld (.int .i64) h_7 e3 fun (x1 : Int) =>
                  (bif known then
                    go2 true (IntKind.i64.wrap (x47 + 1)) h_7
                  else
                    Ld (.int .i64) h_7 (e2.add 1) fun (To1 : Int) =>
                    Let (x1 == To1 : Bool) fun known1 =>
                    go2 known1 (IntKind.i64.wrap (x47 + 1)) h_7
                  )
                else
                  Join [.one .bool] (fun _ (x71 : Bool) h_8 =>
                    (bif x71 then
                      Ld (.int .i64) h_8 (e2.add 1) fun (To2 : Int) =>
                      Alloc h_8 (.cells #[.int .i64 To2] 3) fun b2 h_9 =>
                      App Try.prog 53 53 seen1 ⟨some b2, 1, 1⟩ h_9 fun s1 h_10 =>
                      Ld (.int .i64) h_10 (e2.add 1) fun (To3 : Int) =>
                      Alloc h_10 (.cells #[.int .i64 To3] 3) fun b3 h_11 =>
                      App Try.prog 53 53 todo1 ⟨some b3, 1, 1⟩ h_11 fun s2 h_12 =>
                      go1 s1 s2 (IntKind.i64.wrap (x33 + 1)) h_12
                    else
                      go1 seen1 todo1 (IntKind.i64.wrap (x33 + 1)) h_8
                    )
                    ) fun J =>
                  (bif !known then
                    (bif decide (limit < 0) then
                      J true h_7
                    else
                      Ld (.int .i64) h_7 (e2.add 1) fun (To4 : Int) =>
                      C_ref13_Graph_Elder g To4 limit h_7 fun (r : Bool) h_13 =>
                      J r h_13
                    )
                  else
                    J false h_7
                  )
                )
                ) (false, 0, ()) h_6
            )
          )
        else
          go seen1 todo1 h_3
        )
        ) (seen, s, 0, ()) h_2
    else
      R false h_2
    )
    ) (⟨some b, 0, 0⟩, ⟨some b1, 1, 1⟩, ()) h_1
theorem E_ref13_Graph_way (g : Option Addr) (from_ : Int) (to : Int) (limit : Int) (h : Heap) (R : Bool → Heap → Prop) :
    VF Try.prog [(60, [(9, .one .sl), (10, .one .sl)]), (7726, [(9, .one .sl), (10, .one .sl), (33, .one (.int .i64))]), (31647354, [(14, .one .bool), (47, .one (.int .i64))]), (15823678, [(71, .one .bool)])] Try.f102 [.pointer g, .int .i64 from_, .int .i64 to, .int .i64 limit] h [.one .bool] R = S_ref13_Graph_way g from_ to limit h R := by kernel_rfl
theorem A_ref13_Graph_way {g : Option Addr} {from_ : Int} {to : Int} {limit : Int} {h : Heap} {R : Bool → Heap → Prop} (hs : S_ref13_Graph_way g from_ to limit h R) : C_ref13_Graph_way g from_ to limit h R :=
  use_ Try.func102 (by kernel_rfl) (E_ref13_Graph_way g from_ to limit h R) hs

/-- (*kissinggateref14.Field).place -/
def S_ref14_Field_place (f : Option Addr) (id : Int) (h : Heap) (R : Int → Heap → Prop) : Prop :=
  Nn f fun p =>
  Ld .sl h (p.add 1) fun (N : Sl) =>
  Loop [.one (.int .i64)] (fun _ (x12 : Int) h_ go =>
    (bif decide (x12 < (N.n : Int)) then
      Ix N x12 4 fun e =>
      Ld (.int .i64) h_ e fun (x_ID : Int) =>
      Ld (.int .i64) h_ (e.add 1) fun (x_Stamp : Int) =>
      Ld (.int .i64) h_ (e.add 2) fun (x_Site : Int) =>
      Ld (.int .i64) h_ (e.add 3) fun (x_Round : Int) =>
      Alloc h_ (.cells #[.int .i64 0, .int .i64 0, .int .i64 0, .int .i64 0] 108) fun n h_1 =>
      St h_1 n (.int .i64 x_ID) fun h_2 =>
      St h_2 (n.add 1) (.int .i64 x_Stamp) fun h_3 =>
      St h_3 (n.add 2) (.int .i64 x_Site) fun h_4 =>
      St h_4 (n.add 3) (.int .i64 x_Round) fun h_5 =>
      Ld (.int .i64) h_5 n fun (ID : Int) =>
      (bif ID == id then
        R x12 h_5
      else
        go (IntKind.i64.wrap (x12 + 1)) h_5
      )
    else
      R (-1) h_
    )
    ) (0, ()) h
theorem E_ref14_Field_place (f : Option Addr) (id : Int) (h : Heap) (R : Int → Heap → Prop) :
    VF Try.prog [(26, [(12, .one (.int .i64))])] Try.f124 [.pointer f, .int .i64 id] h [.one (.int .i64)] R = S_ref14_Field_place f id h R := by kernel_rfl
theorem A_ref14_Field_place {f : Option Addr} {id : Int} {h : Heap} {R : Int → Heap → Prop} (hs : S_ref14_Field_place f id h R) : C_ref14_Field_place f id h R :=
  use_ Try.func124 (by kernel_rfl) (E_ref14_Field_place f id h R) hs

/-- (*kissinggateref14.Field).send -/
def S_ref14_Field_send (f : Option Addr) (from_ : Int) (p : KL [.int .i64, .int .i64, .int .i64, .int .i64]) (h : Heap) (R : Heap → Prop) : Prop :=
  Alloc h (.cells #[.int .i64 p.1, .int .i64 p.2.1, .int .i64 p.2.2.1, .int .i64 p.2.2.2.1] 37) fun p1 h_ =>
  Nn f fun p2 =>
  Ld .sl h_ (p2.add 2) fun (E : Sl) =>
  Loop [.one (.int .i64)] (fun _ (x14 : Int) h_1 go =>
    (bif decide (x14 < (E.n : Int)) then
      Ix E x14 2 fun e =>
      Ld (.int .i64) h_1 e fun (x_From : Int) =>
      Ld (.int .i64) h_1 (e.add 1) fun (x_To : Int) =>
      Alloc h_1 (.cells #[.int .i64 0, .int .i64 0] 30) fun e1 h_2 =>
      St h_2 e1 (.int .i64 x_From) fun h_3 =>
      St h_3 (e1.add 1) (.int .i64 x_To) fun h_4 =>
      Ld (.int .i64) h_4 e1 fun (From : Int) =>
      (bif From != from_ then
        go (IntKind.i64.wrap (x14 + 1)) h_4
      else
        Nn f fun p3 =>
        Ld .sl h_4 (p3.add 1) fun (N : Sl) =>
        Ld (.int .i64) h_4 (e1.add 1) fun (To : Int) =>
        (
          C_ref14_Field_place f To h_4 fun (r : Int) h_5 =>
          (Ld .sl h_5 (p3.add 1) fun (N1 : Sl) => (.slice N1.a N1.n N1.c : Value) = .slice N.a N.n N.c) ∧
          Ix N r 4 fun e2 =>
          Ld (.int .i64) h_5 e2 fun (x_ID : Int) =>
          Ld (.int .i64) h_5 (e2.add 1) fun (x_Stamp : Int) =>
          Ld (.int .i64) h_5 (e2.add 2) fun (x_Site : Int) =>
          Ld (.int .i64) h_5 (e2.add 3) fun (x_Round : Int) =>
          Alloc h_5 (.cells #[.int .i64 0, .int .i64 0, .int .i64 0, .int .i64 0] 108) fun y h_6 =>
          (Ld .sl h_6 (p3.add 1) fun (N2 : Sl) => (.slice N2.a N2.n N2.c : Value) = .slice N.a N.n N.c) ∧
          (Ld (.int .i64) h_6 (e1.add 1) fun (To1 : Int) => (.int .i64 To1 : Value) = .int .i64 To) ∧
          (Ld (.int .i64) h_6 e2 fun (x_ID1 : Int) => Ld (.int .i64) h_6 (e2.add 1) fun (x_Stamp1 : Int) => Ld (.int .i64) h_6 (e2.add 2) fun (x_Site1 : Int) => Ld (.int .i64) h_6 (e2.add 3) fun (x_Round1 : Int) => (.agg #[.int .i64 x_ID1, .int .i64 x_Stamp1, .int .i64 x_Site1, .int .i64 x_Round1] : Value) = .agg #[.int .i64 x_ID, .int .i64 x_Stamp, .int .i64 x_Site, .int .i64 x_Round]) ∧
          St h_6 y (.int .i64 x_ID) fun h_7 =>
          St h_7 (y.add 1) (.int .i64 x_Stamp) fun h_8 =>
          St h_8 (y.add 2) (.int .i64 x_Site) fun h_9 =>
          St h_9 (y.add 3) (.int .i64 x_Round) fun h_10 =>
          Join [.one .bool] (fun _ (x57 : Bool) h_11 =>
            (bif x57 then
              Nn f fun p4 =>
              Ld .sl h_11 (p4.add 4) fun (Flight : Sl) =>
              Ld (.int .i64) h_11 p1 fun (Start : Int) =>
              Ld (.int .i64) h_11 (p1.add 1) fun (Stamp : Int) =>
              Ld (.int .i64) h_11 (p1.add 2) fun (Round : Int) =>
              Ld (.int .i64) h_11 (e1.add 1) fun (To2 : Int) =>
              Alloc h_11 (.cells #[.int .i64 Start, .int .i64 Stamp, .int .i64 Round, .int .i64 To2] 37) fun b h_12 =>
              (Ld .sl h_12 (p4.add 4) fun (Flight1 : Sl) => (.slice Flight1.a Flight1.n Flight1.c : Value) = .slice Flight.a Flight.n Flight.c) ∧
              App Try.prog 34 34 Flight ⟨some b, 1, 1⟩ h_12 fun s h_13 =>
              Nn f fun p5 =>
              St h_13 (p5.add 4) (.slice s.a s.n s.c) fun h_14 =>
              go (IntKind.i64.wrap (x14 + 1)) h_14
            else
              go (IntKind.i64.wrap (x14 + 1)) h_11
            )
            ) fun J =>
          Ld (.int .i64) h_10 (e1.add 1) fun (To3 : Int) =>
          Ld (.int .i64) h_10 p1 fun (Start1 : Int) =>
          (bif To3 == Start1 then
            J true h_10
          else
            Ld (.int .i64) h_10 (y.add 1) fun (Stamp1 : Int) =>
            Ld (.int .i64) h_10 (p1.add 1) fun (Stamp2 : Int) =>
            (bif decide (Stamp1 < Stamp2) then
              J true h_10
            else
              Ld (.int .i64) h_10 (y.add 1) fun (Stamp3 : Int) =>
              Ld (.int .i64) h_10 (p1.add 1) fun (Stamp4 : Int) =>
              (bif Stamp3 == Stamp4 then
                Ld (.int .i64) h_10 y fun (ID : Int) =>
                Ld (.int .i64) h_10 p1 fun (Start2 : Int) =>
                J (decide (ID < Start2)) h_10
              else
                J false h_10
              )
            )
          )
        ) ∧
        (
          Alloc h_4 (.cells #[.int .i64 0, .int .i64 0, .int .i64 0, .int .i64 0] 108) fun y1 h_15 =>
          (Ld .sl h_15 (p3.add 1) fun (N3 : Sl) => (.slice N3.a N3.n N3.c : Value) = .slice N.a N.n N.c) ∧
          (Ld (.int .i64) h_15 (e1.add 1) fun (To4 : Int) => (.int .i64 To4 : Value) = .int .i64 To) ∧
          C_ref14_Field_place f To h_15 fun (r1 : Int) h_16 =>
          (Ld .sl h_16 (p3.add 1) fun (N4 : Sl) => (.slice N4.a N4.n N4.c : Value) = .slice N.a N.n N.c) ∧
          Ix N r1 4 fun e3 =>
          Ld (.int .i64) h_16 e3 fun (x_ID2 : Int) =>
          Ld (.int .i64) h_16 (e3.add 1) fun (x_Stamp2 : Int) =>
          Ld (.int .i64) h_16 (e3.add 2) fun (x_Site2 : Int) =>
          Ld (.int .i64) h_16 (e3.add 3) fun (x_Round2 : Int) =>
          St h_16 y1 (.int .i64 x_ID2) fun h_17 =>
          St h_17 (y1.add 1) (.int .i64 x_Stamp2) fun h_18 =>
          St h_18 (y1.add 2) (.int .i64 x_Site2) fun h_19 =>
          St h_19 (y1.add 3) (.int .i64 x_Round2) fun h_20 =>
          Join [.one .bool] (fun _ (x571 : Bool) h_21 =>
            (bif x571 then
              Nn f fun p6 =>
              Ld .sl h_21 (p6.add 4) fun (Flight2 : Sl) =>
              Ld (.int .i64) h_21 p1 fun (Start3 : Int) =>
              Ld (.int .i64) h_21 (p1.add 1) fun (Stamp5 : Int) =>
              Ld (.int .i64) h_21 (p1.add 2) fun (Round1 : Int) =>
              Ld (.int .i64) h_21 (e1.add 1) fun (To5 : Int) =>
              Alloc h_21 (.cells #[.int .i64 Start3, .int .i64 Stamp5, .int .i64 Round1, .int .i64 To5] 37) fun b1 h_22 =>
              (Ld .sl h_22 (p6.add 4) fun (Flight3 : Sl) => (.slice Flight3.a Flight3.n Flight3.c : Value) = .slice Flight2.a Flight2.n Flight2.c) ∧
              App Try.prog 34 34 Flight2 ⟨some b1, 1, 1⟩ h_22 fun s1 h_23 =>
              Nn f fun p7 =>
              St h_23 (p7.add 4) (.slice s1.a s1.n s1.c) fun h_24 =>
              go (IntKind.i64.wrap (x14 + 1)) h_24
            else
              go (IntKind.i64.wrap (x14 + 1)) h_21
            )
            ) fun J1 =>
          Ld (.int .i64) h_20 (e1.add 1) fun (To6 : Int) =>
          Ld (.int .i64) h_20 p1 fun (Start4 : Int) =>
          (bif To6 == Start4 then
            J1 true h_20
          else
            Ld (.int .i64) h_20 (y1.add 1) fun (Stamp6 : Int) =>
            Ld (.int .i64) h_20 (p1.add 1) fun (Stamp7 : Int) =>
            (bif decide (Stamp6 < Stamp7) then
              J1 true h_20
            else
              Ld (.int .i64) h_20 (y1.add 1) fun (Stamp8 : Int) =>
              Ld (.int .i64) h_20 (p1.add 1) fun (Stamp9 : Int) =>
              (bif Stamp8 == Stamp9 then
                Ld (.int .i64) h_20 y1 fun (ID1 : Int) =>
                Ld (.int .i64) h_20 p1 fun (Start5 : Int) =>
                J1 (decide (ID1 < Start5)) h_20
              else
                J1 false h_20
              )
            )
          )
        )
      )
    else
      R h_1
    )
    ) (0, ()) h_
theorem E_ref14_Field_send (f : Option Addr) (from_ : Int) (p : KL [.int .i64, .int .i64, .int .i64, .int .i64]) (h : Heap) (R : Heap → Prop) :
    VF Try.prog [(14, [(14, .one (.int .i64))]), (7374, [(57, .one .bool)]), (7374, [(57, .one .bool)])] Try.f125 [.pointer f, .int .i64 from_, .agg ⟨KL.vals [.int .i64, .int .i64, .int .i64, .int .i64] p⟩] h [] R = S_ref14_Field_send f from_ p h R := by kernel_rfl
theorem A_ref14_Field_send {f : Option Addr} {from_ : Int} {p : KL [.int .i64, .int .i64, .int .i64, .int .i64]} {h : Heap} {R : Heap → Prop} (hs : S_ref14_Field_send f from_ p h R) : C_ref14_Field_send f from_ p h R :=
  use_ Try.func125 (by kernel_rfl) (E_ref14_Field_send f from_ p h R) hs

/-- (*kissinggateref13.Graph).Elder -/
def S_ref13_Graph_Elder (g : Option Addr) (a : Int) (b : Int) (h : Heap) (R : Bool → Heap → Prop) : Prop :=
  C_ref13_Graph_Stamp g a h fun (r : Int) (r1 : Bool) h_ =>
  C_ref13_Graph_Stamp g b h_ fun (r2 : Int) (r3 : Bool) h_1 =>
  (bif r1 then
    (bif r3 then
      (bif decide (r < r2) then
        R true h_1
      else
        (bif r == r2 then
          R (decide (a < b)) h_1
        else
          R false h_1
        )
      )
    else
      R false h_1
    )
  else
    R false h_1
  )
theorem E_ref13_Graph_Elder (g : Option Addr) (a : Int) (b : Int) (h : Heap) (R : Bool → Heap → Prop) :
    VF Try.prog [] Try.f126 [.pointer g, .int .i64 a, .int .i64 b] h [.one .bool] R = S_ref13_Graph_Elder g a b h R := by kernel_rfl
theorem A_ref13_Graph_Elder {g : Option Addr} {a : Int} {b : Int} {h : Heap} {R : Bool → Heap → Prop} (hs : S_ref13_Graph_Elder g a b h R) : C_ref13_Graph_Elder g a b h R :=
  use_ Try.func126 (by kernel_rfl) (E_ref13_Graph_Elder g a b h R) hs

/-- (*kissinggateref13.Graph).Stamp -/
def S_ref13_Graph_Stamp (g : Option Addr) (id : Int) (h : Heap) (R : Int → Bool → Heap → Prop) : Prop :=
  Nn g fun p =>
  Ld .sl h p fun (N : Sl) =>
  Loop [.one (.int .i64)] (fun _ (x13 : Int) h_ go =>
    (bif decide (x13 < (N.n : Int)) then
      Ix N x13 2 fun e =>
      Ld (.int .i64) h_ e fun (x_ID : Int) =>
      Ld (.int .i64) h_ (e.add 1) fun (x_Stamp : Int) =>
      Alloc h_ (.cells #[.int .i64 0, .int .i64 0] 162) fun n h_1 =>
      St h_1 n (.int .i64 x_ID) fun h_2 =>
      St h_2 (n.add 1) (.int .i64 x_Stamp) fun h_3 =>
      Ld (.int .i64) h_3 n fun (ID : Int) =>
      (bif ID == id then
        Ld (.int .i64) h_3 (n.add 1) fun (Stamp : Int) =>
        R Stamp true h_3
      else
        go (IntKind.i64.wrap (x13 + 1)) h_3
      )
    else
      R 0 false h_
    )
    ) (0, ()) h
theorem E_ref13_Graph_Stamp (g : Option Addr) (id : Int) (h : Heap) (R : Int → Bool → Heap → Prop) :
    VF Try.prog [(26, [(13, .one (.int .i64))])] Try.f133 [.pointer g, .int .i64 id] h [.one (.int .i64), .one .bool] R = S_ref13_Graph_Stamp g id h R := by kernel_rfl
theorem A_ref13_Graph_Stamp {g : Option Addr} {id : Int} {h : Heap} {R : Int → Bool → Heap → Prop} (hs : S_ref13_Graph_Stamp g id h R) : C_ref13_Graph_Stamp g id h R :=
  use_ Try.func133 (by kernel_rfl) (E_ref13_Graph_Stamp g id h R) hs

end Go.Proofs.Ytmpekddpehhdnaa
