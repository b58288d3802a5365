/- Printed by a program: what each function asks of the heap, that this is the reading of its code, and what follows for a call. -/
import Derived.Test.YtmpekddpehhdnaaSC
import Derived.Test.YtmpekddpehhdnaaVg
import Derived.Test.YtmpekddpehhdnaaProg
set_option maxRecDepth 1000000
namespace Go.Proofs.Ytmpekddpehhdnaa
open Go

theorem useG_SK {an : List (Nat × Slots)} {f : FuncId} {fn : Func} {args : List Value} {h : Heap} {ss : List Sh} {R : TH (Heap → Prop) ss} {S : Prop} (hf : Try.prog.funcs[f]? = some fn) (hb : codeOk fn args.length = true) (e : VG Try.prog an fn args h ss R = S) (hs : S) : CallR Try.prog f args h ss R := VG_sound (an := an) mixed_ hf hb (cast e.symm hs)
/-- chase.New -/
def S_chase_New (sites : Int) (h : Heap) (R : Option Addr → Heap → Prop) : Prop :=
  Join [.one .bool] (fun _ (x9 : Bool) h_ =>
    (bif x9 then
      R none h_
    else
      Alloc h_ (.cells #[.slice none 0 0, .slice none 0 0, .slice none 0 0, .slice none 0 0] 117) fun p h_1 =>
      Loop [.one (.int .i64)] (fun _ (x13 : Int) h_2 go =>
        (bif decide (x13 < sites) then
          Nn (some p) fun p1 =>
          Ld .sl h_2 p1 fun (seen : Sl) =>
          OpT Try.prog (Instr.makeMap 118 none) h_2 [.one .map] fun m h_3 =>
          Alloc h_3 (.cells #[.map m] 118) fun b h_4 =>
          App Try.prog 114 114 seen ⟨some b, 1, 1⟩ h_4 fun s h_5 =>
          Nn (some p) fun p2 =>
          St h_5 p2 (.slice s.a s.n s.c) fun h_6 =>
          go (IntKind.i64.wrap (x13 + 1)) h_6
        else
          R (some p) h_2
        )
        ) (0, ()) h_1
    )
    ) fun J =>
  (bif decide (sites < 1) then
    J true h
  else
    J (decide (sites > 8)) h
  )
theorem E_chase_New (sites : Int) (h : Heap) (R : Option Addr → Heap → Prop) :
    VF Try.prog [(12, [(9, .one .bool)]), (122, [(13, .one (.int .i64))])] Try.f16 [.int .i64 sites] h [.one .ptr] R = S_chase_New sites h R := by kernel_rfl
theorem A_chase_New {sites : Int} {h : Heap} {R : Option Addr → Heap → Prop} (hs : S_chase_New sites h R) : C_chase_New sites h R :=
  use_ Try.func16 (by kernel_rfl) (E_chase_New sites h R) hs

/-- (*chase.Field).Node -/
def S_chase_Field_Node (f : Option Addr) (id : Int) (stamp : Int) (site : Int) (h : Heap) (R : Int → Heap → Prop) : Prop :=
  Join [] (fun _ h_ =>
    Nn f fun p =>
    Ld .sl h_ (p.add 1) fun (nodes : Sl) =>
    Alloc h_ (.cells #[.int .i64 id, .int .i64 stamp, .int .i64 site, .int .i64 0, .slice none 0 0] 122) fun b h_1 =>
    App Try.prog 115 115 nodes ⟨some b, 1, 1⟩ h_1 fun s h_2 =>
    Nn f fun p1 =>
    St h_2 (p1.add 1) (.slice s.a s.n s.c) fun h_3 =>
    R 0 h_3
    ) fun J =>
  Join [.one .bool] (fun _ (x9 : Bool) h_4 =>
    (bif x9 then
      R 1 h_4
    else
      C_chase_Field_find f id h_4 fun (r : Option Addr) h_5 =>
      (bif !r.isNone then
        R 8 h_5
      else
        Nn f fun p2 =>
        Ld .sl h_5 (p2.add 1) fun (nodes1 : Sl) =>
        (bif decide ((nodes1.n : Int) ≥ 64) then
          R 7 h_5
        else
          J  h_5
        )
      )
    )
    ) fun J1 =>
  (bif f.isNone then
    J1 true h
  else
    (bif decide (id < 0) then
      J1 true h
    else
      (bif decide (stamp < 0) then
        J1 true h
      else
        (bif decide (stamp > 1099511627776) then
          J1 true h
        else
          (bif decide (site < 0) then
            J1 true h
          else
            Nn f fun p3 =>
            Ld .sl h p3 fun (seen : Sl) =>
            J1 (decide (site ≥ (seen.n : Int))) h
          )
        )
      )
    )
  )
theorem E_chase_Field_Node (f : Option Addr) (id : Int) (stamp : Int) (site : Int) (h : Heap) (R : Int → Heap → Prop) :
    VF Try.prog [(6, []), (24, [(9, .one .bool)])] Try.f17 [.pointer f, .int .i64 id, .int .i64 stamp, .int .i64 site] h [.one (.int .i64)] R = S_chase_Field_Node f id stamp site h R := by kernel_rfl
theorem A_chase_Field_Node {f : Option Addr} {id : Int} {stamp : Int} {site : Int} {h : Heap} {R : Int → Heap → Prop} (hs : S_chase_Field_Node f id stamp site h R) : C_chase_Field_Node f id stamp site h R :=
  use_ Try.func17 (by kernel_rfl) (E_chase_Field_Node f id stamp site h R) hs

/-- (*chase.Field).Edge -/
def S_chase_Field_Edge (f : Option Addr) (from_ : Int) (to : Int) (h : Heap) (R : Int → Heap → Prop) : Prop :=
  Join [.one .bool] (fun _ (x16 : Bool) h_ =>
    (bif x16 then
      R 1 h_
    else
      C_chase_Field_find f from_ h_ fun (r : Option Addr) h_1 =>
      Join [.one .bool] (fun _ (x27 : Bool) h_2 =>
        (bif x27 then
          R 6 h_2
        else
          Nn r fun p =>
          Ld .sl h_2 (p.add 4) fun (to1 : Sl) =>
          C_slices_BinarySearch_int_int to1 to h_2 fun (r1 : Int) (r2 : Bool) h_3 =>
          (bif !r2 then
            Nn r fun p1 =>
            Ld .sl h_3 (p1.add 4) fun (to2 : Sl) =>
            Alloc h_3 (.cells #[.int .i64 to] 3) fun b h_4 =>
            C_slices_Insert_int_int to2 r1 ⟨some b, 1, 1⟩ h_4 fun (r3 : Sl) h_5 =>
            Nn r fun p2 =>
            St h_5 (p2.add 4) (.slice r3.a r3.n r3.c) fun h_6 =>
            R 0 h_6
          else
            R 0 h_3
          )
        )
        ) fun J1 =>
      (bif r.isNone then
        J1 true h_1
      else
        C_chase_Field_find f to h_1 fun (r4 : Option Addr) h_7 =>
        J1 r4.isNone h_7
      )
    )
    ) fun J =>
  (bif f.isNone then
    J true h
  else
    J (from_ == to) h
  )
theorem E_chase_Field_Edge (f : Option Addr) (from_ : Int) (to : Int) (h : Heap) (R : Int → Heap → Prop) :
    VF Try.prog [(12, [(16, .one .bool)]), (60, [(27, .one .bool)])] Try.f18 [.pointer f, .int .i64 from_, .int .i64 to] h [.one (.int .i64)] R = S_chase_Field_Edge f from_ to h R := by kernel_rfl
theorem A_chase_Field_Edge {f : Option Addr} {from_ : Int} {to : Int} {h : Heap} {R : Int → Heap → Prop} (hs : S_chase_Field_Edge f from_ to h R) : C_chase_Field_Edge f from_ to h R :=
  use_ Try.func18 (by kernel_rfl) (E_chase_Field_Edge f from_ to h R) hs

/-- (*chase.Field).Begin -/
def S_chase_Field_Begin (f : Option Addr) (id : Int) (h : Heap) (R : Int → Int → Heap → Prop) : Prop :=
  (bif f.isNone then
    R 0 1 h
  else
    C_chase_Field_find f id h fun (r : Option Addr) h_ =>
    (bif r.isNone then
      R 0 6 h_
    else
      Nn r fun p =>
      Ld (.int .i64) h_ (p.add 3) fun (round : Int) =>
      Nn r fun p1 =>
      St h_ (p1.add 3) (.int .i64 (IntKind.i64.wrap (round + 1))) fun h_1 =>
      Nn r fun p2 =>
      Ld (.int .i64) h_1 (p2.add 1) fun (stamp : Int) =>
      Nn r fun p3 =>
      Ld (.int .i64) h_1 (p3.add 3) fun (round1 : Int) =>
      C_chase_Field_goes f r (id, stamp, round1, 0, ()) h_1 fun h_2 =>
      Nn r fun p4 =>
      Ld (.int .i64) h_2 (p4.add 3) fun (round2 : Int) =>
      R round2 0 h_2
    )
  )
theorem E_chase_Field_Begin (f : Option Addr) (id : Int) (h : Heap) (R : Int → Int → Heap → Prop) :
    VF Try.prog [] Try.f19 [.pointer f, .int .i64 id] h [.one (.int .i64), .one (.int .i64)] R = S_chase_Field_Begin f id h R := by kernel_rfl
theorem A_chase_Field_Begin {f : Option Addr} {id : Int} {h : Heap} {R : Int → Int → Heap → Prop} (hs : S_chase_Field_Begin f id h R) : C_chase_Field_Begin f id h R :=
  use_ Try.func19 (by kernel_rfl) (E_chase_Field_Begin f id h R) hs

/-- (*chase.Field).Flight -/
def S_chase_Field_Flight (f : Option Addr) (h : Heap) (R : Sl → Heap → Prop) : Prop :=
  (bif f.isNone then
    R ⟨none, 0, 0⟩ h
  else
    Nn f fun p =>
    Ld .sl h (p.add 2) fun (flight : Sl) =>
    C_slices_Clone_api_Probe_api_Probe flight h fun (r : Sl) h_ =>
    R r h_
  )
theorem E_chase_Field_Flight (f : Option Addr) (h : Heap) (R : Sl → Heap → Prop) :
    VF Try.prog [] Try.f20 [.pointer f] h [.one .sl] R = S_chase_Field_Flight f h R := by kernel_rfl
theorem A_chase_Field_Flight {f : Option Addr} {h : Heap} {R : Sl → Heap → Prop} (hs : S_chase_Field_Flight f h R) : C_chase_Field_Flight f h R :=
  use_ Try.func20 (by kernel_rfl) (E_chase_Field_Flight f h R) hs

/-- (*chase.Field).Deliver -/
def S_chase_Field_Deliver (f : Option Addr) (i : Int) (h : Heap) (R : Int → Bool → Int → Heap → Prop) : Prop :=
  C_chase_Field_take f i h fun (r : KL [.int .i64, .int .i64, .int .i64, .int .i64]) (r1 : Int) h_ =>
  Alloc h_ (.cells #[.int .i64 0, .int .i64 0, .int .i64 0, .int .i64 0] 37) fun p h_1 =>
  St h_1 p (.int .i64 r.1) fun h_2 =>
  St h_2 (p.add 1) (.int .i64 r.2.1) fun h_3 =>
  St h_3 (p.add 2) (.int .i64 r.2.2.1) fun h_4 =>
  St h_4 (p.add 3) (.int .i64 r.2.2.2.1) fun h_5 =>
  (bif r1 != 0 then
    R 0 false r1 h_5
  else
    Ld (.int .i64) h_5 (p.add 3) fun (At_ : Int) =>
    Ld (.int .i64) h_5 p fun (Start : Int) =>
    (bif At_ == Start then
      Ld (.int .i64) h_5 p fun (Start1 : Int) =>
      C_chase_Field_tell f Start1 h_5 fun h_6 =>
      Ld (.int .i64) h_6 p fun (Start2 : Int) =>
      R Start2 true 0 h_6
    else
      Ld (.int .i64) h_5 (p.add 3) fun (At_1 : Int) =>
      C_chase_Field_find f At_1 h_5 fun (r2 : Option Addr) h_7 =>
      Nn f fun p1 =>
      Ld .sl h_7 p1 fun (seen : Sl) =>
      Nn r2 fun p2 =>
      Ld (.int .i64) h_7 (p2.add 2) fun (site : Int) =>
      Ix seen site 1 fun e =>
      Ld .map h_7 e fun (x : Option Nat) =>
      Ld (.int .i64) h_7 p fun (Start3 : Int) =>
      Ld (.int .i64) h_7 (p.add 3) fun (At_2 : Int) =>
      Alloc h_7 (.cells #[.int .i64 0, .int .i64 0] 131) fun k h_8 =>
      (Ld .sl h_8 p1 fun (seen1 : Sl) => (.slice seen1.a seen1.n seen1.c : Value) = .slice seen.a seen.n seen.c) ∧
      (Ld (.int .i64) h_8 (p2.add 2) fun (site1 : Int) => (.int .i64 site1 : Value) = .int .i64 site) ∧
      (Ld .map h_8 e fun (x1 : Option Nat) => (.map x1 : Value) = .map x) ∧
      (Ld (.int .i64) h_8 p fun (Start4 : Int) => (.int .i64 Start4 : Value) = .int .i64 Start3) ∧
      (Ld (.int .i64) h_8 (p.add 3) fun (At_3 : Int) => (.int .i64 At_3 : Value) = .int .i64 At_2) ∧
      St h_8 k (.int .i64 Start3) fun h_9 =>
      St h_9 (k.add 1) (.int .i64 At_2) fun h_10 =>
      Ld (.int .i64) h_10 k fun (x_start : Int) =>
      Ld (.int .i64) h_10 (k.add 1) fun (x_at : Int) =>
      OpV Try.prog (Instr.lookup 118 (.map x) (.agg #[.int .i64 x_start, .int .i64 x_at]) false) h_10 [.one (.int .i64)] fun (x2 : Int) =>
      Ld (.int .i64) h_10 (p.add 2) fun (Round : Int) =>
      (bif decide (x2 < Round) then
        Ld (.int .i64) h_10 k fun (x_start1 : Int) =>
        Ld (.int .i64) h_10 (k.add 1) fun (x_at1 : Int) =>
        Ld (.int .i64) h_10 (p.add 2) fun (Round1 : Int) =>
        OpU (P := Try.prog) (Instr.mapUpdate 118 (.map x) (.agg #[.int .i64 x_start1, .int .i64 x_at1]) (.int .i64 Round1)) h_10 fun h_11 =>
        Ld (.int .i64) h_11 p fun (x_Start : Int) =>
        Ld (.int .i64) h_11 (p.add 1) fun (x_Stamp : Int) =>
        Ld (.int .i64) h_11 (p.add 2) fun (x_Round : Int) =>
        Ld (.int .i64) h_11 (p.add 3) fun (x_At : Int) =>
        C_chase_Field_goes f r2 (x_Start, x_Stamp, x_Round, x_At, ()) h_11 fun h_12 =>
        R 0 false 0 h_12
      else
        R 0 false 0 h_10
      )
    )
  )
theorem E_chase_Field_Deliver (f : Option Addr) (i : Int) (h : Heap) (R : Int → Bool → Int → Heap → Prop) :
    VF Try.prog [] Try.f21 [.pointer f, .int .i64 i] h [.one (.int .i64), .one .bool, .one (.int .i64)] R = S_chase_Field_Deliver f i h R := by kernel_rfl
theorem A_chase_Field_Deliver {f : Option Addr} {i : Int} {h : Heap} {R : Int → Bool → Int → Heap → Prop} (hs : S_chase_Field_Deliver f i h R) : C_chase_Field_Deliver f i h R :=
  use_ Try.func21 (by kernel_rfl) (E_chase_Field_Deliver f i h R) hs

/-- (*chase.Field).Victims -/
def S_chase_Field_Victims (f : Option Addr) (h : Heap) (R : Sl → Heap → Prop) : Prop :=
  (bif f.isNone then
    R ⟨none, 0, 0⟩ h
  else
    Nn f fun p =>
    Ld .sl h (p.add 3) fun (victims : Sl) =>
    C_slices_Clone_int_int victims h fun (r : Sl) h_ =>
    R r h_
  )
theorem E_chase_Field_Victims (f : Option Addr) (h : Heap) (R : Sl → Heap → Prop) :
    VF Try.prog [] Try.f49 [.pointer f] h [.one .sl] R = S_chase_Field_Victims f h R := by kernel_rfl
theorem A_chase_Field_Victims {f : Option Addr} {h : Heap} {R : Sl → Heap → Prop} (hs : S_chase_Field_Victims f h R) : C_chase_Field_Victims f h R :=
  use_ Try.func49 (by kernel_rfl) (E_chase_Field_Victims f h R) hs

/-- (*chase.Field).Settle -/
def S_chase_Field_Settle (f : Option Addr) (most : Int) (h : Heap) (R : Int → Heap → Prop) : Prop :=
  Loop [.one (.int .i64)] (fun _ (n : Int) h_ go =>
    (bif !f.isNone then
      (bif decide (n < most) then
        Nn f fun p =>
        Ld .sl h_ (p.add 2) fun (flight : Sl) =>
        (bif decide ((flight.n : Int) > 0) then
          C_chase_Field_Deliver f 0 h_ fun (r : Int) (r1 : Bool) (r2 : Int) h_1 =>
          Let (IntKind.i64.wrap (n + 1) : Int) fun n1 =>
          go n1 h_1
        else
          R n h_
        )
      else
        R n h_
      )
    else
      R n h_
    )
    ) (0, ()) h
theorem E_chase_Field_Settle (f : Option Addr) (most : Int) (h : Heap) (R : Int → Heap → Prop) :
    VF Try.prog [(28, [(5, .one (.int .i64))])] Try.f53 [.pointer f, .int .i64 most] h [.one (.int .i64)] R = S_chase_Field_Settle f most h R := by kernel_rfl
theorem A_chase_Field_Settle {f : Option Addr} {most : Int} {h : Heap} {R : Int → Heap → Prop} (hs : S_chase_Field_Settle f most h R) : C_chase_Field_Settle f most h R :=
  use_ Try.func53 (by kernel_rfl) (E_chase_Field_Settle f most h R) hs

/-- (*chase.Field).find -/
def S_chase_Field_find (f : Option Addr) (id : Int) (h : Heap) (R : Option Addr → Heap → Prop) : Prop :=
  Nn f fun p =>
  Ld .sl h (p.add 1) fun (nodes : Sl) =>
  Loop [.one (.int .i64)] (fun _ (x11 : Int) h_ go =>
    (bif decide (x11 < (nodes.n : Int)) then
      Nn f fun p1 =>
      Ld .sl h_ (p1.add 1) fun (nodes1 : Sl) =>
      Ix nodes1 x11 5 fun e =>
      Ld (.int .i64) h_ e fun (id1 : Int) =>
      (bif id1 == id then
        Nn f fun p2 =>
        Ld .sl h_ (p2.add 1) fun (nodes2 : Sl) =>
        Ix nodes2 x11 5 fun e1 =>
        R (some e1) h_
      else
        go (IntKind.i64.wrap (x11 + 1)) h_
      )
    else
      R none h_
    )
    ) (0, ()) h
theorem E_chase_Field_find (f : Option Addr) (id : Int) (h : Heap) (R : Option Addr → Heap → Prop) :
    VF Try.prog [(26, [(11, .one (.int .i64))])] Try.f56 [.pointer f, .int .i64 id] h [.one .ptr] R = S_chase_Field_find f id h R := by kernel_rfl
theorem A_chase_Field_find {f : Option Addr} {id : Int} {h : Heap} {R : Option Addr → Heap → Prop} (hs : S_chase_Field_find f id h R) : C_chase_Field_find f id h R :=
  use_ Try.func56 (by kernel_rfl) (E_chase_Field_find f id h R) hs

/-- slices.BinarySearch[[]int,int] -/
def S_slices_BinarySearch_int_int (x : Sl) (target : Int) (h : Heap) (R : Int → Bool → Heap → Prop) : Prop :=
  Let ((x.n : Int) : Int) fun n =>
  Loop [.one (.int .i64), .one (.int .i64)] (fun _ (i : Int) (j : Int) h_ go =>
    (bif decide (i < j) then
      Nneg 1 (
      Let (IntKind.i64.wrap (shiftV .shr .u64 (IntKind.u64.wrap (IntKind.i64.wrap (i + j))) 1) : Int) fun h_1 =>
      Ix x h_1 1 fun e =>
      Ld (.int .i64) h_ e fun (x1 : Int) =>
      C_cmp_Less_int x1 target h_ fun (r : Bool) h_2 =>
      (bif r then
        Let (IntKind.i64.wrap (h_1 + 1) : Int) fun i1 =>
        go i1 j h_2
      else
        go i h_1 h_2
      )
      )
    else
      (bif decide (i < n) then
        Ix x i 1 fun e1 =>
        Ld (.int .i64) h_ e1 fun (x2 : Int) =>
        (bif x2 == target then
          R i true h_
        else
          Ix x i 1 fun e2 =>
          Ld (.int .i64) h_ e2 fun (x3 : Int) =>
          C_slices_isNaN_int x3 h_ fun (r1 : Bool) h_3 =>
          (bif r1 then
            C_slices_isNaN_int target h_3 fun (r2 : Bool) h_4 =>
            R i r2 h_4
          else
            R i false h_3
          )
        )
      else
        R i false h_
      )
    )
    ) (0, n, ()) h
theorem E_slices_BinarySearch_int_int (x : Sl) (target : Int) (h : Heap) (R : Int → Bool → Heap → Prop) :
    VF Try.prog [(60, [(7, .one (.int .i64)), (8, .one (.int .i64))])] Try.f57 [.slice x.a x.n x.c, .int .i64 target] h [.one (.int .i64), .one .bool] R = S_slices_BinarySearch_int_int x target h R := by kernel_rfl
theorem A_slices_BinarySearch_int_int {x : Sl} {target : Int} {h : Heap} {R : Int → Bool → Heap → Prop} (hs : S_slices_BinarySearch_int_int x target h R) : C_slices_BinarySearch_int_int x target h R :=
  use_ Try.func57 (by kernel_rfl) (E_slices_BinarySearch_int_int x target h R) hs

/-- slices.Insert[[]int,int] -/
def S_slices_Insert_int_int (s : Sl) (i : Int) (v : Sl) (h : Heap) (R : Sl → Heap → Prop) : Prop :=
  Cut Try.prog 53 s (some (.int .i64 i)) none none fun s1 =>
  Let ((v.n : Int) : Int) fun m =>
  (bif m == 0 then
    R s h
  else
    Let ((s.n : Int) : Int) fun n =>
    (bif i == n then
      App Try.prog 53 53 s v h fun s2 h_ =>
      R s2 h_
    else
      (bif decide ((IntKind.i64.wrap (n + m)) > (s.c : Int)) then
        Cut Try.prog 53 s none (some (.int .i64 i)) none fun s3 =>
        OpT Try.prog (Builtin.append_ #[53, 3] 53 #[.slice s3.a s3.n s3.c, .int .i64 (IntKind.i64.wrap ((IntKind.i64.wrap (n + m)) - i))]) h [.one .sl] fun s4 h_1 =>
        Cut Try.prog 53 s4 (some (.int .i64 i)) none none fun s5 =>
        OpT Try.prog (Builtin.copy_ #[53, 53] 3 #[.slice s5.a s5.n s5.c, .slice v.a v.n v.c]) h_1 [.one (.int .i64)] fun n1 h_2 =>
        Cut Try.prog 53 s4 (some (.int .i64 (IntKind.i64.wrap (i + m)))) none none fun s6 =>
        Cut Try.prog 53 s (some (.int .i64 i)) none none fun s7 =>
        OpT Try.prog (Builtin.copy_ #[53, 53] 3 #[.slice s6.a s6.n s6.c, .slice s7.a s7.n s7.c]) h_2 [.one (.int .i64)] fun n2 h_3 =>
        R s4 h_3
      else
        Cut Try.prog 53 s none (some (.int .i64 (IntKind.i64.wrap (n + m)))) none fun s8 =>
        Cut Try.prog 53 s8 (some (.int .i64 (IntKind.i64.wrap (i + m)))) none none fun s9 =>
        ExtR Try.prog 106 #[.slice v.a v.n v.c, .slice s9.a s9.n s9.c] h [.one .bool] fun (r : Bool) h_4 =>
        (bif !r then
          Cut Try.prog 53 s8 (some (.int .i64 (IntKind.i64.wrap (i + m)))) none none fun s10 =>
          Cut Try.prog 53 s8 (some (.int .i64 i)) none none fun s11 =>
          OpT Try.prog (Builtin.copy_ #[53, 53] 3 #[.slice s10.a s10.n s10.c, .slice s11.a s11.n s11.c]) h_4 [.one (.int .i64)] fun n3 h_5 =>
          Cut Try.prog 53 s8 (some (.int .i64 i)) none none fun s12 =>
          OpT Try.prog (Builtin.copy_ #[53, 53] 3 #[.slice s12.a s12.n s12.c, .slice v.a v.n v.c]) h_5 [.one (.int .i64)] fun n4 h_6 =>
          R s8 h_6
        else
          Cut Try.prog 53 s8 (some (.int .i64 n)) none none fun s13 =>
          OpT Try.prog (Builtin.copy_ #[53, 53] 3 #[.slice s13.a s13.n s13.c, .slice v.a v.n v.c]) h_4 [.one (.int .i64)] fun n5 h_7 =>
          Cut Try.prog 53 s8 (some (.int .i64 i)) none none fun s14 =>
          C_slices_rotateRight_int s14 m h_7 fun h_8 =>
          R s8 h_8
        )
      )
    )
  )
theorem E_slices_Insert_int_int (s : Sl) (i : Int) (v : Sl) (h : Heap) (R : Sl → Heap → Prop) :
    VF Try.prog [] Try.f58 [.slice s.a s.n s.c, .int .i64 i, .slice v.a v.n v.c] h [.one .sl] R = S_slices_Insert_int_int s i v h R := by kernel_rfl
theorem A_slices_Insert_int_int {s : Sl} {i : Int} {v : Sl} {h : Heap} {R : Sl → Heap → Prop} (hs : S_slices_Insert_int_int s i v h R) : C_slices_Insert_int_int s i v h R :=
  use_ Try.func58 (by kernel_rfl) (E_slices_Insert_int_int s i v h R) hs

/-- (*chase.Field).goes -/
def S_chase_Field_goes (f : Option Addr) (x : Option Addr) (p : KL [.int .i64, .int .i64, .int .i64, .int .i64]) (h : Heap) (R : Heap → Prop) : Prop :=
  Alloc h (.cells #[.int .i64 p.1, .int .i64 p.2.1, .int .i64 p.2.2.1, .int .i64 p.2.2.2.1] 37) fun p1 h_ =>
  Nn x fun p2 =>
  Ld .sl h_ (p2.add 4) fun (to : Sl) =>
  Loop [.one (.int .i64)] (fun _ (x14 : Int) h_1 go =>
    (bif decide (x14 < (to.n : Int)) then
      Ix to x14 1 fun e =>
      Ld (.int .i64) h_1 e fun (x1 : Int) =>
      C_chase_Field_find f x1 h_1 fun (r : Option Addr) h_2 =>
      Join [.one .bool] (fun _ (x48 : Bool) h_3 =>
        (bif x48 then
          St h_3 (p1.add 3) (.int .i64 x1) fun h_4 =>
          Nn f fun p3 =>
          Ld .sl h_4 (p3.add 2) fun (flight : Sl) =>
          Ld (.int .i64) h_4 p1 fun (x_Start : Int) =>
          Ld (.int .i64) h_4 (p1.add 1) fun (x_Stamp : Int) =>
          Ld (.int .i64) h_4 (p1.add 2) fun (x_Round : Int) =>
          Ld (.int .i64) h_4 (p1.add 3) fun (x_At : Int) =>
          Alloc h_4 (.cells #[.int .i64 x_Start, .int .i64 x_Stamp, .int .i64 x_Round, .int .i64 x_At] 37) fun b h_5 =>
          (Ld .sl h_5 (p3.add 2) fun (flight1 : Sl) => (.slice flight1.a flight1.n flight1.c : Value) = .slice flight.a flight.n flight.c) ∧
          App Try.prog 34 34 flight ⟨some b, 1, 1⟩ h_5 fun s h_6 =>
          Nn f fun p4 =>
          St h_6 (p4.add 2) (.slice s.a s.n s.c) fun h_7 =>
          go (IntKind.i64.wrap (x14 + 1)) h_7
        else
          go (IntKind.i64.wrap (x14 + 1)) h_3
        )
        ) fun J =>
      Ld (.int .i64) h_2 p1 fun (Start : Int) =>
      (bif x1 == Start then
        J true h_2
      else
        Nn r fun p5 =>
        Ld (.int .i64) h_2 (p5.add 1) fun (stamp : Int) =>
        Ld (.int .i64) h_2 (p1.add 1) fun (Stamp : Int) =>
        (bif decide (stamp < Stamp) then
          J true h_2
        else
          Nn r fun p6 =>
          Ld (.int .i64) h_2 (p6.add 1) fun (stamp1 : Int) =>
          Ld (.int .i64) h_2 (p1.add 1) fun (Stamp1 : Int) =>
          (bif stamp1 == Stamp1 then
            Ld (.int .i64) h_2 p1 fun (Start1 : Int) =>
            J (decide (x1 < Start1)) h_2
          else
            J false h_2
          )
        )
      )
    else
      R h_1
    )
    ) (0, ()) h_
theorem E_chase_Field_goes (f : Option Addr) (x : Option Addr) (p : KL [.int .i64, .int .i64, .int .i64, .int .i64]) (h : Heap) (R : Heap → Prop) :
    VF Try.prog [(14, [(14, .one (.int .i64))]), (3686, [(48, .one .bool)])] Try.f59 [.pointer f, .pointer x, .agg ⟨KL.vals [.int .i64, .int .i64, .int .i64, .int .i64] p⟩] h [] R = S_chase_Field_goes f x p h R := by kernel_rfl
theorem A_chase_Field_goes {f : Option Addr} {x : Option Addr} {p : KL [.int .i64, .int .i64, .int .i64, .int .i64]} {h : Heap} {R : Heap → Prop} (hs : S_chase_Field_goes f x p h R) : C_chase_Field_goes f x p h R :=
  use_ Try.func59 (by kernel_rfl) (E_chase_Field_goes f x p h R) hs

/-- slices.Clone[[]api.Probe,api.Probe] -/
def S_slices_Clone_api_Probe_api_Probe (s : Sl) (h : Heap) (R : Sl → Heap → Prop) : Prop :=
  (bif s.a.isNone then
    R ⟨none, 0, 0⟩ h
  else
    Alloc h (.cells #[] 37) fun b h_ =>
    App Try.prog 34 34 ⟨some b, 0, 0⟩ s h_ fun s1 h_1 =>
    R s1 h_1
  )
theorem E_slices_Clone_api_Probe_api_Probe (s : Sl) (h : Heap) (R : Sl → Heap → Prop) :
    VF Try.prog [] Try.f60 [.slice s.a s.n s.c] h [.one .sl] R = S_slices_Clone_api_Probe_api_Probe s h R := by kernel_rfl
theorem A_slices_Clone_api_Probe_api_Probe {s : Sl} {h : Heap} {R : Sl → Heap → Prop} (hs : S_slices_Clone_api_Probe_api_Probe s h R) : C_slices_Clone_api_Probe_api_Probe s h R :=
  use_ Try.func60 (by kernel_rfl) (E_slices_Clone_api_Probe_api_Probe s h R) hs

/-- (*chase.Field).take -/
def S_chase_Field_take (f : Option Addr) (i : Int) (h : Heap) (R : KL [.int .i64, .int .i64, .int .i64, .int .i64] → Int → Heap → Prop) : Prop :=
  Alloc h (.cells #[.int .i64 0, .int .i64 0, .int .i64 0, .int .i64 0] 37) fun p h_ =>
  Join [] (fun _ h_1 =>
    Nn f fun p1 =>
    Ld .sl h_1 (p1.add 2) fun (flight : Sl) =>
    Ix flight i 4 fun e =>
    Ld (.int .i64) h_1 e fun (x_Start : Int) =>
    Ld (.int .i64) h_1 (e.add 1) fun (x_Stamp : Int) =>
    Ld (.int .i64) h_1 (e.add 2) fun (x_Round : Int) =>
    Ld (.int .i64) h_1 (e.add 3) fun (x_At : Int) =>
    Alloc h_1 (.cells #[.int .i64 0, .int .i64 0, .int .i64 0, .int .i64 0] 37) fun p2 h_2 =>
    St h_2 p2 (.int .i64 x_Start) fun h_3 =>
    St h_3 (p2.add 1) (.int .i64 x_Stamp) fun h_4 =>
    St h_4 (p2.add 2) (.int .i64 x_Round) fun h_5 =>
    St h_5 (p2.add 3) (.int .i64 x_At) fun h_6 =>
    Nn f fun p3 =>
    Ld .sl h_6 (p3.add 2) fun (flight1 : Sl) =>
    C_slices_Delete_api_Probe_api_Probe flight1 i (IntKind.i64.wrap (i + 1)) h_6 fun (r : Sl) h_7 =>
    Nn f fun p4 =>
    St h_7 (p4.add 2) (.slice r.a r.n r.c) fun h_8 =>
    Ld (.int .i64) h_8 p2 fun (x_Start1 : Int) =>
    Ld (.int .i64) h_8 (p2.add 1) fun (x_Stamp1 : Int) =>
    Ld (.int .i64) h_8 (p2.add 2) fun (x_Round1 : Int) =>
    Ld (.int .i64) h_8 (p2.add 3) fun (x_At1 : Int) =>
    St h_8 p (.int .i64 x_Start1) fun h_9 =>
    St h_9 (p.add 1) (.int .i64 x_Stamp1) fun h_10 =>
    St h_10 (p.add 2) (.int .i64 x_Round1) fun h_11 =>
    St h_11 (p.add 3) (.int .i64 x_At1) fun h_12 =>
    Ld (.int .i64) h_12 p fun (r_0 : Int) =>
    Ld (.int .i64) h_12 (p.add 1) fun (r_1 : Int) =>
    Ld (.int .i64) h_12 (p.add 2) fun (r_2 : Int) =>
    Ld (.int .i64) h_12 (p.add 3) fun (r_3 : Int) =>
    R (r_0, r_1, r_2, r_3, ()) 0 h_12
    ) fun J =>
  (bif f.isNone then
    St h_ p (.int .i64 0) fun h_13 =>
    St h_13 (p.add 1) (.int .i64 0) fun h_14 =>
    St h_14 (p.add 2) (.int .i64 0) fun h_15 =>
    St h_15 (p.add 3) (.int .i64 0) fun h_16 =>
    Ld (.int .i64) h_16 p fun (r_01 : Int) =>
    Ld (.int .i64) h_16 (p.add 1) fun (r_11 : Int) =>
    Ld (.int .i64) h_16 (p.add 2) fun (r_21 : Int) =>
    Ld (.int .i64) h_16 (p.add 3) fun (r_31 : Int) =>
    R (r_01, r_11, r_21, r_31, ()) 1 h_16
  else
    (bif decide (i < 0) then
      St h_ p (.int .i64 0) fun h_17 =>
      St h_17 (p.add 1) (.int .i64 0) fun h_18 =>
      St h_18 (p.add 2) (.int .i64 0) fun h_19 =>
      St h_19 (p.add 3) (.int .i64 0) fun h_20 =>
      Ld (.int .i64) h_20 p fun (r_02 : Int) =>
      Ld (.int .i64) h_20 (p.add 1) fun (r_12 : Int) =>
      Ld (.int .i64) h_20 (p.add 2) fun (r_22 : Int) =>
      Ld (.int .i64) h_20 (p.add 3) fun (r_32 : Int) =>
      R (r_02, r_12, r_22, r_32, ()) 6 h_20
    else
      Nn f fun p5 =>
      Ld .sl h_ (p5.add 2) fun (flight2 : Sl) =>
      (bif decide (i ≥ (flight2.n : Int)) then
        St h_ p (.int .i64 0) fun h_21 =>
        St h_21 (p.add 1) (.int .i64 0) fun h_22 =>
        St h_22 (p.add 2) (.int .i64 0) fun h_23 =>
        St h_23 (p.add 3) (.int .i64 0) fun h_24 =>
        Ld (.int .i64) h_24 p fun (r_03 : Int) =>
        Ld (.int .i64) h_24 (p.add 1) fun (r_13 : Int) =>
        Ld (.int .i64) h_24 (p.add 2) fun (r_23 : Int) =>
        Ld (.int .i64) h_24 (p.add 3) fun (r_33 : Int) =>
        R (r_03, r_13, r_23, r_33, ()) 6 h_24
      else
        J  h_
      )
    )
  )
theorem E_chase_Field_take (f : Option Addr) (i : Int) (h : Heap) (R : KL [.int .i64, .int .i64, .int .i64, .int .i64] → Int → Heap → Prop) :
    VG Try.prog [(6, [])] Try.f61 [.pointer f, .int .i64 i] h [.agg [.int .i64, .int .i64, .int .i64, .int .i64], .one (.int .i64)] R = S_chase_Field_take f i h R := by kernel_rfl
theorem A_chase_Field_take {f : Option Addr} {i : Int} {h : Heap} {R : KL [.int .i64, .int .i64, .int .i64, .int .i64] → Int → Heap → Prop} (hs : S_chase_Field_take f i h R) : C_chase_Field_take f i h R :=
  useG_SK Try.func61 (by kernel_rfl) (E_chase_Field_take f i h R) hs

/-- (*chase.Field).tell -/
def S_chase_Field_tell (f : Option Addr) (id : Int) (h : Heap) (R : Heap → Prop) : Prop :=
  Nn f fun p =>
  Ld .sl h (p.add 3) fun (victims : Sl) =>
  C_slices_BinarySearch_int_int victims id h fun (r : Int) (r1 : Bool) h_ =>
  (bif !r1 then
    Nn f fun p1 =>
    Ld .sl h_ (p1.add 3) fun (victims1 : Sl) =>
    Alloc h_ (.cells #[.int .i64 id] 3) fun b h_1 =>
    C_slices_Insert_int_int victims1 r ⟨some b, 1, 1⟩ h_1 fun (r2 : Sl) h_2 =>
    Nn f fun p2 =>
    St h_2 (p2.add 3) (.slice r2.a r2.n r2.c) fun h_3 =>
    R h_3
  else
    R h_
  )
theorem E_chase_Field_tell (f : Option Addr) (id : Int) (h : Heap) (R : Heap → Prop) :
    VF Try.prog [] Try.f62 [.pointer f, .int .i64 id] h [] R = S_chase_Field_tell f id h R := by kernel_rfl
theorem A_chase_Field_tell {f : Option Addr} {id : Int} {h : Heap} {R : Heap → Prop} (hs : S_chase_Field_tell f id h R) : C_chase_Field_tell f id h R :=
  use_ Try.func62 (by kernel_rfl) (E_chase_Field_tell f id h R) hs

/-- (*chase.Field).Drop -/
def S_chase_Field_Drop (f : Option Addr) (i : Int) (h : Heap) (R : Int → Heap → Prop) : Prop :=
  C_chase_Field_take f i h fun (r : KL [.int .i64, .int .i64, .int .i64, .int .i64]) (r1 : Int) h_ =>
  Alloc h_ (.cells #[.int .i64 0, .int .i64 0, .int .i64 0, .int .i64 0] 37) fun p h_1 =>
  St h_1 p (.int .i64 r.1) fun h_2 =>
  St h_2 (p.add 1) (.int .i64 r.2.1) fun h_3 =>
  St h_3 (p.add 2) (.int .i64 r.2.2.1) fun h_4 =>
  St h_4 (p.add 3) (.int .i64 r.2.2.2.1) fun h_5 =>
  R r1 h_5
theorem E_chase_Field_Drop (f : Option Addr) (i : Int) (h : Heap) (R : Int → Heap → Prop) :
    VF Try.prog [] Try.f96 [.pointer f, .int .i64 i] h [.one (.int .i64)] R = S_chase_Field_Drop f i h R := by kernel_rfl
theorem A_chase_Field_Drop {f : Option Addr} {i : Int} {h : Heap} {R : Int → Heap → Prop} (hs : S_chase_Field_Drop f i h R) : C_chase_Field_Drop f i h R :=
  use_ Try.func96 (by kernel_rfl) (E_chase_Field_Drop f i h R) hs

/-- (*chase.Field).Double -/
def S_chase_Field_Double (f : Option Addr) (i : Int) (h : Heap) (R : Int → Heap → Prop) : Prop :=
  Join [] (fun _ h_ =>
    Nn f fun p =>
    Ld .sl h_ (p.add 2) fun (flight : Sl) =>
    Nn f fun p1 =>
    Ld .sl h_ (p1.add 2) fun (flight1 : Sl) =>
    Ix flight1 i 4 fun e =>
    Ld (.int .i64) h_ e fun (x_Start : Int) =>
    Ld (.int .i64) h_ (e.add 1) fun (x_Stamp : Int) =>
    Ld (.int .i64) h_ (e.add 2) fun (x_Round : Int) =>
    Ld (.int .i64) h_ (e.add 3) fun (x_At : Int) =>
    Alloc h_ (.cells #[.int .i64 x_Start, .int .i64 x_Stamp, .int .i64 x_Round, .int .i64 x_At] 37) fun b h_1 =>
    (Ld .sl h_1 (p.add 2) fun (flight2 : Sl) => (.slice flight2.a flight2.n flight2.c : Value) = .slice flight.a flight.n flight.c) ∧
    App Try.prog 34 34 flight ⟨some b, 1, 1⟩ h_1 fun s h_2 =>
    Nn f fun p2 =>
    St h_2 (p2.add 2) (.slice s.a s.n s.c) fun h_3 =>
    R 0 h_3
    ) fun J =>
  (bif f.isNone then
    R 1 h
  else
    (bif decide (i < 0) then
      R 6 h
    else
      Nn f fun p3 =>
      Ld .sl h (p3.add 2) fun (flight3 : Sl) =>
      (bif decide (i ≥ (flight3.n : Int)) then
        R 6 h
      else
        J  h
      )
    )
  )
theorem E_chase_Field_Double (f : Option Addr) (i : Int) (h : Heap) (R : Int → Heap → Prop) :
    VF Try.prog [(6, [])] Try.f97 [.pointer f, .int .i64 i] h [.one (.int .i64)] R = S_chase_Field_Double f i h R := by kernel_rfl
theorem A_chase_Field_Double {f : Option Addr} {i : Int} {h : Heap} {R : Int → Heap → Prop} (hs : S_chase_Field_Double f i h R) : C_chase_Field_Double f i h R :=
  use_ Try.func97 (by kernel_rfl) (E_chase_Field_Double f i h R) hs

/-- slices.Clone[[]int,int] -/
def S_slices_Clone_int_int (s : Sl) (h : Heap) (R : Sl → Heap → Prop) : Prop :=
  (bif s.a.isNone then
    R ⟨none, 0, 0⟩ h
  else
    Alloc h (.cells #[] 3) fun b h_ =>
    App Try.prog 53 53 ⟨some b, 0, 0⟩ s h_ fun s1 h_1 =>
    R s1 h_1
  )
theorem E_slices_Clone_int_int (s : Sl) (h : Heap) (R : Sl → Heap → Prop) :
    VF Try.prog [] Try.f100 [.slice s.a s.n s.c] h [.one .sl] R = S_slices_Clone_int_int s h R := by kernel_rfl
theorem A_slices_Clone_int_int {s : Sl} {h : Heap} {R : Sl → Heap → Prop} (hs : S_slices_Clone_int_int s h R) : C_slices_Clone_int_int s h R :=
  use_ Try.func100 (by kernel_rfl) (E_slices_Clone_int_int s h R) hs

/-- cmp.Less[int] -/
def S_cmp_Less_int (x : Int) (y : Int) (h : Heap) (R : Bool → Heap → Prop) : Prop :=
  C_cmp_isNaN_int x h fun (r : Bool) h_ =>
  (bif r then
    C_cmp_isNaN_int y h_ fun (r1 : Bool) h_1 =>
    (bif !r1 then
      R true h_1
    else
      R (decide (x < y)) h_1
    )
  else
    R (decide (x < y)) h_
  )
theorem E_cmp_Less_int (x : Int) (y : Int) (h : Heap) (R : Bool → Heap → Prop) :
    VF Try.prog [] Try.f104 [.int .i64 x, .int .i64 y] h [.one .bool] R = S_cmp_Less_int x y h R := by kernel_rfl
theorem A_cmp_Less_int {x : Int} {y : Int} {h : Heap} {R : Bool → Heap → Prop} (hs : S_cmp_Less_int x y h R) : C_cmp_Less_int x y h R :=
  use_ Try.func104 (by kernel_rfl) (E_cmp_Less_int x y h R) hs

/-- slices.isNaN[int] -/
def S_slices_isNaN_int (x : Int) (h : Heap) (R : Bool → Heap → Prop) : Prop :=
  R (x != x) h
theorem E_slices_isNaN_int (x : Int) (h : Heap) (R : Bool → Heap → Prop) :
    VF Try.prog [] Try.f105 [.int .i64 x] h [.one .bool] R = S_slices_isNaN_int x h R := by kernel_rfl
theorem A_slices_isNaN_int {x : Int} {h : Heap} {R : Bool → Heap → Prop} (hs : S_slices_isNaN_int x h R) : C_slices_isNaN_int x h R :=
  use_ Try.func105 (by kernel_rfl) (E_slices_isNaN_int x h R) hs

/-- slices.Delete[[]api.Probe,api.Probe] -/
def S_slices_Delete_api_Probe_api_Probe (s : Sl) (i : Int) (j : Int) (h : Heap) (R : Sl → Heap → Prop) : Prop :=
  Cut Try.prog 34 s (some (.int .i64 i)) (some (.int .i64 j)) (some (.int .i64 (s.n : Int))) fun s1 =>
  (bif i == j then
    R s h
  else
    Let ((s.n : Int) : Int) fun oldlen =>
    Cut Try.prog 34 s none (some (.int .i64 i)) none fun s2 =>
    Cut Try.prog 34 s (some (.int .i64 j)) none none fun s3 =>
    App Try.prog 34 34 s2 s3 h fun s4 h_ =>
    Cut Try.prog 34 s4 (some (.int .i64 (s4.n : Int))) (some (.int .i64 oldlen)) none fun s5 =>
    OpT Try.prog (Builtin.clear_ #[34] 0 #[.slice s5.a s5.n s5.c]) h_ [] fun h_1 =>
    R s4 h_1
  )
theorem E_slices_Delete_api_Probe_api_Probe (s : Sl) (i : Int) (j : Int) (h : Heap) (R : Sl → Heap → Prop) :
    VF Try.prog [] Try.f108 [.slice s.a s.n s.c, .int .i64 i, .int .i64 j] h [.one .sl] R = S_slices_Delete_api_Probe_api_Probe s i j h R := by kernel_rfl
theorem A_slices_Delete_api_Probe_api_Probe {s : Sl} {i : Int} {j : Int} {h : Heap} {R : Sl → Heap → Prop} (hs : S_slices_Delete_api_Probe_api_Probe s i j h R) : C_slices_Delete_api_Probe_api_Probe s i j h R :=
  use_ Try.func108 (by kernel_rfl) (E_slices_Delete_api_Probe_api_Probe s i j h R) hs

/-- cmp.isNaN[int] -/
def S_cmp_isNaN_int (x : Int) (h : Heap) (R : Bool → Heap → Prop) : Prop :=
  R (x != x) h
theorem E_cmp_isNaN_int (x : Int) (h : Heap) (R : Bool → Heap → Prop) :
    VF Try.prog [] Try.f127 [.int .i64 x] h [.one .bool] R = S_cmp_isNaN_int x h R := by kernel_rfl
theorem A_cmp_isNaN_int {x : Int} {h : Heap} {R : Bool → Heap → Prop} (hs : S_cmp_isNaN_int x h R) : C_cmp_isNaN_int x h R :=
  use_ Try.func127 (by kernel_rfl) (E_cmp_isNaN_int x h R) hs

end Go.Proofs.Ytmpekddpehhdnaa
