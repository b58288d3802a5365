/-
  Several of the proof's texts in one: SR, Ab, Ac, Ad, Pg.
-/
import Derived.Test.YtniojdaddolnfaaGreatMc
import Derived.Test.YtniojdaddolnfaaGreatProg
import Derived.Test.YtniojdaddolnfaaGreatMb
set_option linter.unusedVariables false
set_option linter.unusedSimpArgs false

/- Printed by a program: what each function asks of the heap, that this is the reading of its code, and what follows for a call. -/
set_option maxRecDepth 1000000
namespace Go.Proofs.YtniojdaddolnfaaGreat
open Go

theorem useG_SR {an : List (Nat × Slots)} {f : FuncId} {fn : Func} {args : List Value} {h : Heap} {ss : List Sh} {R : TH (Heap → Prop) ss} {S : Prop} (hf : Tryz.prog.funcs[f]? = some fn) (hb : codeOk fn args.length = true) (e : VG Tryz.prog an fn args h ss R = S) (hs : S) : CallR Tryz.prog f args h ss R := VG_sound (an := an) mixed_ hf hb (cast e.symm hs)
/-- (*raft.Node).Role -/
def S_raft_Node_Role (x : Option Addr) (h : Heap) (R : Int → Heap → Prop) : Prop :=
  (bif x.isNone then
    R 0 h
  else
    Nn x fun p =>
    Ld (.int .i64) h (p.add 6) fun (role : Int) =>
    R role h
  )
theorem E_raft_Node_Role (x : Option Addr) (h : Heap) (R : Int → Heap → Prop) :
    VF Tryz.prog [] Tryz.f13 [.pointer x] h [.one (.int .i64)] R = S_raft_Node_Role x h R := by kernel_rfl
theorem A_raft_Node_Role {x : Option Addr} {h : Heap} {R : Int → Heap → Prop} (hs : S_raft_Node_Role x h R) : C_raft_Node_Role x h R :=
  use_ Tryz.func13 (by kernel_rfl) (E_raft_Node_Role x h R) hs

/-- (*raft.Node).Term -/
def S_raft_Node_Term (x : Option Addr) (h : Heap) (R : Int → Heap → Prop) : Prop :=
  (bif x.isNone then
    R 0 h
  else
    Nn x fun p =>
    Ld (.int .i64) h (p.add 4) fun (term : Int) =>
    R term h
  )
theorem E_raft_Node_Term (x : Option Addr) (h : Heap) (R : Int → Heap → Prop) :
    VF Tryz.prog [] Tryz.f14 [.pointer x] h [.one (.int .i64)] R = S_raft_Node_Term x h R := by kernel_rfl
theorem A_raft_Node_Term {x : Option Addr} {h : Heap} {R : Int → Heap → Prop} (hs : S_raft_Node_Term x h R) : C_raft_Node_Term x h R :=
  use_ Tryz.func14 (by kernel_rfl) (E_raft_Node_Term x h R) hs

/-- (*raft.Node).Committed -/
def S_raft_Node_Committed (x : Option Addr) (from_ : Int) (h : Heap) (R : Sl → Heap → Prop) : Prop :=
  (bif x.isNone then
    R ⟨none, 0, 0⟩ h
  else
    Let (if 1 > from_ then 1 else from_ : Int) fun from_1 =>
    Nn x fun p =>
    Ld (.int .i64) h (p.add 10) fun (commit : Int) =>
    (bif decide (from_1 > commit) then
      R ⟨none, 0, 0⟩ h
    else
      Nn x fun p1 =>
      Ld .ptr h (p1.add 11) fun (log : Option Addr) =>
      Nn x fun p2 =>
      Ld (.int .i64) h (p2.add 10) fun (commit1 : Int) =>
      C_log_Log_From log from_1 (IntKind.i64.wrap ((IntKind.i64.wrap (commit1 - from_1)) + 1)) h fun (r : Sl) h_ =>
      R r h_
    )
  )
theorem E_raft_Node_Committed (x : Option Addr) (from_ : Int) (h : Heap) (R : Sl → Heap → Prop) :
    VF Tryz.prog [] Tryz.f15 [.pointer x, .int .i64 from_] h [.one .sl] R = S_raft_Node_Committed x from_ h R := by kernel_rfl
theorem A_raft_Node_Committed {x : Option Addr} {from_ : Int} {h : Heap} {R : Sl → Heap → Prop} (hs : S_raft_Node_Committed x from_ h R) : C_raft_Node_Committed x from_ h R :=
  use_ Tryz.func15 (by kernel_rfl) (E_raft_Node_Committed x from_ h R) hs

/-- (*raft.Node).State -/
def S_raft_Node_State (x : Option Addr) (h : Heap) (R : KL [.int .i64, .int .i64, .sl] → Heap → Prop) : Prop :=
  Alloc h (.cells #[.int .i64 0, .int .i64 0, .slice none 0 0] 46) fun p h_ =>
  (bif x.isNone then
    St h_ p (.int .i64 0) fun h_1 =>
    St h_1 (p.add 1) (.int .i64 0) fun h_2 =>
    St h_2 (p.add 2) (.slice none 0 0) fun h_3 =>
    Ld (.int .i64) h_3 p fun (r_0 : Int) =>
    Ld (.int .i64) h_3 (p.add 1) fun (r_1 : Int) =>
    Ld .sl h_3 (p.add 2) fun (r_2 : Sl) =>
    R (r_0, r_1, r_2, ()) h_3
  else
    Nn x fun p1 =>
    Ld (.int .i64) h_ (p1.add 4) fun (term : Int) =>
    Nn x fun p2 =>
    Ld (.int .i64) h_ (p2.add 5) fun (vote : Int) =>
    Nn x fun p3 =>
    Ld .ptr h_ (p3.add 11) fun (log : Option Addr) =>
    C_log_Log_All log h_ fun (r : Sl) h_4 =>
    (Ld (.int .i64) h_4 (p1.add 4) fun (term1 : Int) => (.int .i64 term1 : Value) = .int .i64 term) ∧
    (Ld (.int .i64) h_4 (p2.add 5) fun (vote1 : Int) => (.int .i64 vote1 : Value) = .int .i64 vote) ∧
    St h_4 p (.int .i64 term) fun h_5 =>
    St h_5 (p.add 1) (.int .i64 vote) fun h_6 =>
    St h_6 (p.add 2) (.slice r.a r.n r.c) fun h_7 =>
    Ld (.int .i64) h_7 p fun (r_01 : Int) =>
    Ld (.int .i64) h_7 (p.add 1) fun (r_11 : Int) =>
    Ld .sl h_7 (p.add 2) fun (r_21 : Sl) =>
    R (r_01, r_11, r_21, ()) h_7
  )
theorem E_raft_Node_State (x : Option Addr) (h : Heap) (R : KL [.int .i64, .int .i64, .sl] → Heap → Prop) :
    VG Tryz.prog [] Tryz.f21 [.pointer x] h [.agg [.int .i64, .int .i64, .sl]] R = S_raft_Node_State x h R := by kernel_rfl
theorem A_raft_Node_State {x : Option Addr} {h : Heap} {R : KL [.int .i64, .int .i64, .sl] → Heap → Prop} (hs : S_raft_Node_State x h R) : C_raft_Node_State x h R :=
  useG_SR Tryz.func21 (by kernel_rfl) (E_raft_Node_State x h R) hs

/-- (*raft.Node).Last -/
def S_raft_Node_Last (x : Option Addr) (h : Heap) (R : Int → Heap → Prop) : Prop :=
  (bif x.isNone then
    R 0 h
  else
    Nn x fun p =>
    Ld .ptr h (p.add 11) fun (log : Option Addr) =>
    C_log_Log_Last log h fun (r : Int) (r1 : Int) h_ =>
    R r h_
  )
theorem E_raft_Node_Last (x : Option Addr) (h : Heap) (R : Int → Heap → Prop) :
    VF Tryz.prog [] Tryz.f25 [.pointer x] h [.one (.int .i64)] R = S_raft_Node_Last x h R := by kernel_rfl
theorem A_raft_Node_Last {x : Option Addr} {h : Heap} {R : Int → Heap → Prop} (hs : S_raft_Node_Last x h R) : C_raft_Node_Last x h R :=
  use_ Tryz.func25 (by kernel_rfl) (E_raft_Node_Last x h R) hs

/-- (*raft.Node).Commit -/
def S_raft_Node_Commit (x : Option Addr) (h : Heap) (R : Int → Heap → Prop) : Prop :=
  (bif x.isNone then
    R 0 h
  else
    Nn x fun p =>
    Ld (.int .i64) h (p.add 10) fun (commit : Int) =>
    R commit h
  )
theorem E_raft_Node_Commit (x : Option Addr) (h : Heap) (R : Int → Heap → Prop) :
    VF Tryz.prog [] Tryz.f26 [.pointer x] h [.one (.int .i64)] R = S_raft_Node_Commit x h R := by kernel_rfl
theorem A_raft_Node_Commit {x : Option Addr} {h : Heap} {R : Int → Heap → Prop} (hs : S_raft_Node_Commit x h R) : C_raft_Node_Commit x h R :=
  use_ Tryz.func26 (by kernel_rfl) (E_raft_Node_Commit x h R) hs

/-- raft.New -/
def S_raft_New (id : Int) (n : Int) (elect : Int) (beat : Int) (s : KL [.int .i64, .int .i64, .sl]) (h : Heap) (R : Option Addr → Int → Heap → Prop) : Prop :=
  Alloc h (.cells #[.int .i64 s.1, .int .i64 s.2.1, .slice s.2.2.1.a s.2.2.1.n s.2.2.1.c] 46) fun s1 h_ =>
  Join [] (fun _ h_1 =>
    Ld (.int .i64) h_1 s1 fun (Term : Int) =>
    Ld (.int .i64) h_1 (s1.add 1) fun (Vote : Int) =>
    Ld .sl h_1 (s1.add 2) fun (Entries : Sl) =>
    C_log_New Entries h_1 fun (r : Option Addr) h_2 =>
    (Ld (.int .i64) h_2 s1 fun (Term1 : Int) => (.int .i64 Term1 : Value) = .int .i64 Term) ∧
    (Ld (.int .i64) h_2 (s1.add 1) fun (Vote1 : Int) => (.int .i64 Vote1 : Value) = .int .i64 Vote) ∧
    Alloc h_2 (.cells #[.int .i64 id, .int .i64 n, .int .i64 elect, .int .i64 beat, .int .i64 Term, .int .i64 Vote, .int .i64 0, .int .i64 (-1), .int .i64 0, .int .i64 0, .int .i64 0, .pointer r, .int .u64 0, .int .u64 0, .int .i64 0, .int .i64 0, .int .i64 0, .int .i64 0, .int .i64 0, .int .i64 0, .int .i64 0, .int .i64 0, .int .i64 0, .int .i64 0, .int .i64 0, .int .i64 0, .int .i64 0, .int .i64 0, .slice none 0 0, .bool false, .int .i64 0] 73) fun p h_3 =>
    R (some p) 0 h_3
    ) fun J =>
  (bif decide (n < 1) then
    R none 1 h_
  else
    (bif decide (n > 7) then
      R none 1 h_
    else
      (bif decide (id < 0) then
        R none 1 h_
      else
        (bif decide (id ≥ n) then
          R none 1 h_
        else
          (bif decide (elect < 1) then
            R none 1 h_
          else
            (bif decide (elect > 1000) then
              R none 1 h_
            else
              (bif decide (beat < 1) then
                R none 1 h_
              else
                (bif decide (beat > elect) then
                  R none 1 h_
                else
                  Ld (.int .i64) h_ s1 fun (x_Term : Int) =>
                  Ld (.int .i64) h_ (s1.add 1) fun (x_Vote : Int) =>
                  Ld .sl h_ (s1.add 2) fun (x_Entries : Sl) =>
                  C_raft_right (x_Term, x_Vote, x_Entries, ()) h_ fun (r1 : Bool) h_4 =>
                  (bif !r1 then
                    R none 2 h_4
                  else
                    J  h_4
                  )
                )
              )
            )
          )
        )
      )
    )
  )
theorem E_raft_New (id : Int) (n : Int) (elect : Int) (beat : Int) (s : KL [.int .i64, .int .i64, .sl]) (h : Heap) (R : Option Addr → Int → Heap → Prop) :
    VF Tryz.prog [(6, [])] Tryz.f30 [.int .i64 id, .int .i64 n, .int .i64 elect, .int .i64 beat, .agg ⟨KL.vals [.int .i64, .int .i64, .sl] s⟩] h [.one .ptr, .one (.int .i64)] R = S_raft_New id n elect beat s h R := by kernel_rfl
theorem A_raft_New {id : Int} {n : Int} {elect : Int} {beat : Int} {s : KL [.int .i64, .int .i64, .sl]} {h : Heap} {R : Option Addr → Int → Heap → Prop} (hs : S_raft_New id n elect beat s h R) : C_raft_New id n elect beat s h R :=
  use_ Tryz.func30 (by kernel_rfl) (E_raft_New id n elect beat s h R) hs

/-- raft.right -/
def S_raft_right (s : KL [.int .i64, .int .i64, .sl]) (h : Heap) (R : Bool → Heap → Prop) : Prop :=
  Alloc h (.cells #[.int .i64 s.1, .int .i64 s.2.1, .slice s.2.2.1.a s.2.2.1.n s.2.2.1.c] 46) fun s1 h_ =>
  Ld .sl h_ (s1.add 2) fun (Entries : Sl) =>
  Loop [.one (.int .i64), .one (.int .i64)] (fun _ (last : Int) (x9 : Int) h_1 go =>
    (bif decide (x9 < (Entries.n : Int)) then
      Ix Entries x9 2 fun e =>
      Ld (.int .i64) h_1 e fun (x_Term : Int) =>
      Ld .str h_1 (e.add 1) fun (x_Data : ByteArray) =>
      Alloc h_1 (.cells #[.int .i64 0, .string (⟨#[]⟩ : ByteArray)] 40) fun e1 h_2 =>
      St h_2 e1 (.int .i64 x_Term) fun h_3 =>
      St h_3 (e1.add 1) (.string x_Data) fun h_4 =>
      Ld (.int .i64) h_4 e1 fun (Term : Int) =>
      (bif decide (Term < last) then
        R false h_4
      else
        Ld (.int .i64) h_4 e1 fun (Term1 : Int) =>
        Ld (.int .i64) h_4 s1 fun (Term2 : Int) =>
        (bif decide (Term1 > Term2) then
          R false h_4
        else
          Ld .str h_4 (e1.add 1) fun (Data : ByteArray) =>
          (bif decide ((Data.size : Int) > 512) then
            R false h_4
          else
            Ld (.int .i64) h_4 e1 fun (Term3 : Int) =>
            go Term3 (IntKind.i64.wrap (x9 + 1)) h_4
          )
        )
      )
    else
      Ld (.int .i64) h_1 s1 fun (Term4 : Int) =>
      (bif decide (Term4 ≥ 0) then
        Ld (.int .i64) h_1 s1 fun (Term5 : Int) =>
        (bif decide (Term5 ≤ 1099511627776) then
          Ld (.int .i64) h_1 (s1.add 1) fun (Vote : Int) =>
          (bif decide (Vote ≥ (-1)) then
            Ld (.int .i64) h_1 (s1.add 1) fun (Vote1 : Int) =>
            (bif decide (Vote1 < 7) then
              Ld .sl h_1 (s1.add 2) fun (Entries1 : Sl) =>
              R (decide ((Entries1.n : Int) ≤ 1024)) h_1
            else
              R false h_1
            )
          else
            R false h_1
          )
        else
          R false h_1
        )
      else
        R false h_1
      )
    )
    ) (1, 0, ()) h_
theorem E_raft_right (s : KL [.int .i64, .int .i64, .sl]) (h : Heap) (R : Bool → Heap → Prop) :
    VF Tryz.prog [(58, [(3, .one (.int .i64)), (9, .one (.int .i64))])] Tryz.f42 [.agg ⟨KL.vals [.int .i64, .int .i64, .sl] s⟩] h [.one .bool] R = S_raft_right s h R := by kernel_rfl
theorem A_raft_right {s : KL [.int .i64, .int .i64, .sl]} {h : Heap} {R : Bool → Heap → Prop} (hs : S_raft_right s h R) : C_raft_right s h R :=
  use_ Tryz.func42 (by kernel_rfl) (E_raft_right s h R) hs

/-- (*raft.Node).Tick -/
def S_raft_Node_Tick (x : Option Addr) (draw : Int) (h : Heap) (R : Heap → Prop) : Prop :=
  (bif x.isNone then
    R h
  else
    Nn x fun p =>
    Ld (.int .i64) h (p.add 8) fun (since : Int) =>
    Nn x fun p1 =>
    St h (p1.add 8) (.int .i64 (IntKind.i64.wrap (since + 1))) fun h_ =>
    Nn x fun p2 =>
    Ld (.int .i64) h_ (p2.add 6) fun (role : Int) =>
    (bif role == 3 then
      C_raft_Node_lead x h_ fun h_1 =>
      R h_1
    else
      Nn x fun p3 =>
      Ld (.int .i64) h_ (p3.add 4) fun (term : Int) =>
      (bif decide (term < 1099511627776) then
        Nn x fun p4 =>
        Ld (.int .i64) h_ (p4.add 8) fun (since1 : Int) =>
        Nn x fun p5 =>
        Ld (.int .i64) h_ (p5.add 2) fun (elect : Int) =>
        Nn x fun p6 =>
        Ld (.int .i64) h_ (p6.add 2) fun (elect1 : Int) =>
        Nz elect1 (
        (bif decide (since1 ≥ (IntKind.i64.wrap (elect + (divV .rem .i64 (if 0 > draw then 0 else draw) elect1)))) then
          C_raft_Node_asks x h_ fun h_2 =>
          R h_2
        else
          R h_
        )
        )
      else
        R h_
      )
    )
  )
theorem E_raft_Node_Tick (x : Option Addr) (draw : Int) (h : Heap) (R : Heap → Prop) :
    VF Tryz.prog [] Tryz.f47 [.pointer x, .int .i64 draw] h [] R = S_raft_Node_Tick x draw h R := by kernel_rfl
theorem A_raft_Node_Tick {x : Option Addr} {draw : Int} {h : Heap} {R : Heap → Prop} (hs : S_raft_Node_Tick x draw h R) : C_raft_Node_Tick x draw h R :=
  use_ Tryz.func47 (by kernel_rfl) (E_raft_Node_Tick x draw h R) hs

/-- (*raft.Node).Propose -/
def S_raft_Node_Propose (x : Option Addr) (data : ByteArray) (h : Heap) (R : Int → Int → Heap → Prop) : Prop :=
  (bif x.isNone then
    R 0 1 h
  else
    Nn x fun p =>
    Ld (.int .i64) h (p.add 6) fun (role : Int) =>
    (bif role != 3 then
      R 0 13 h
    else
      (bif decide ((data.size : Int) > 512) then
        R 0 4 h
      else
        C_raft_Node_add x data h fun (r : Int) h_ =>
        (bif r != 0 then
          R 0 r h_
        else
          C_raft_Node_Last x h_ fun (r1 : Int) h_1 =>
          R r1 0 h_1
        )
      )
    )
  )
theorem E_raft_Node_Propose (x : Option Addr) (data : ByteArray) (h : Heap) (R : Int → Int → Heap → Prop) :
    VF Tryz.prog [] Tryz.f49 [.pointer x, .string data] h [.one (.int .i64), .one (.int .i64)] R = S_raft_Node_Propose x data h R := by kernel_rfl
theorem A_raft_Node_Propose {x : Option Addr} {data : ByteArray} {h : Heap} {R : Int → Int → Heap → Prop} (hs : S_raft_Node_Propose x data h R) : C_raft_Node_Propose x data h R :=
  use_ Tryz.func49 (by kernel_rfl) (E_raft_Node_Propose x data h R) hs

/-- (*raft.Node).Step -/
def S_raft_Node_Step (x : Option Addr) (m : KL [.int .i64, .int .i64, .int .i64, .int .i64, .int .i64, .int .i64, .int .i64, .bool, .sl]) (h : Heap) (R : Heap → Prop) : Prop :=
  Alloc h (.cells #[.int .i64 m.1, .int .i64 m.2.1, .int .i64 m.2.2.1, .int .i64 m.2.2.2.1, .int .i64 m.2.2.2.2.1, .int .i64 m.2.2.2.2.2.1, .int .i64 m.2.2.2.2.2.2.1, .bool m.2.2.2.2.2.2.2.1, .slice m.2.2.2.2.2.2.2.2.1.a m.2.2.2.2.2.2.2.2.1.n m.2.2.2.2.2.2.2.2.1.c] 59) fun m1 h_ =>
  Join [.one .bool] (fun _ (x11 : Bool) h_1 =>
    (bif x11 then
      R h_1
    else
      Ld (.int .i64) h_1 m1 fun (Kind : Int) =>
      (bif Kind == 1 then
        Ld (.int .i64) h_1 m1 fun (x_Kind : Int) =>
        Ld (.int .i64) h_1 (m1.add 1) fun (x_From : Int) =>
        Ld (.int .i64) h_1 (m1.add 2) fun (x_To : Int) =>
        Ld (.int .i64) h_1 (m1.add 3) fun (x_Term : Int) =>
        Ld (.int .i64) h_1 (m1.add 4) fun (x_Index : Int) =>
        Ld (.int .i64) h_1 (m1.add 5) fun (x_LogTerm : Int) =>
        Ld (.int .i64) h_1 (m1.add 6) fun (x_Commit : Int) =>
        Ld .bool h_1 (m1.add 7) fun (x_Yes : Bool) =>
        Ld .sl h_1 (m1.add 8) fun (x_Entries : Sl) =>
        C_raft_Node_askPre x (x_Kind, x_From, x_To, x_Term, x_Index, x_LogTerm, x_Commit, x_Yes, x_Entries, ()) h_1 fun h_2 =>
        R h_2
      else
        (bif Kind == 2 then
          Ld (.int .i64) h_1 m1 fun (x_Kind1 : Int) =>
          Ld (.int .i64) h_1 (m1.add 1) fun (x_From1 : Int) =>
          Ld (.int .i64) h_1 (m1.add 2) fun (x_To1 : Int) =>
          Ld (.int .i64) h_1 (m1.add 3) fun (x_Term1 : Int) =>
          Ld (.int .i64) h_1 (m1.add 4) fun (x_Index1 : Int) =>
          Ld (.int .i64) h_1 (m1.add 5) fun (x_LogTerm1 : Int) =>
          Ld (.int .i64) h_1 (m1.add 6) fun (x_Commit1 : Int) =>
          Ld .bool h_1 (m1.add 7) fun (x_Yes1 : Bool) =>
          Ld .sl h_1 (m1.add 8) fun (x_Entries1 : Sl) =>
          C_raft_Node_tellPre x (x_Kind1, x_From1, x_To1, x_Term1, x_Index1, x_LogTerm1, x_Commit1, x_Yes1, x_Entries1, ()) h_1 fun h_3 =>
          R h_3
        else
          Ld (.int .i64) h_1 (m1.add 3) fun (Term : Int) =>
          Nn x fun p =>
          Ld (.int .i64) h_1 (p.add 4) fun (term : Int) =>
          Join [] (fun _ h_4 =>
            Ld (.int .i64) h_4 (m1.add 3) fun (Term1 : Int) =>
            Nn x fun p1 =>
            Ld (.int .i64) h_4 (p1.add 4) fun (term1 : Int) =>
            (bif decide (Term1 < term1) then
              Ld (.int .i64) h_4 m1 fun (Kind1 : Int) =>
              (bif Kind1 == 5 then
                Ld (.int .i64) h_4 (m1.add 1) fun (From : Int) =>
                C_raft_Node_told x From false 0 h_4 fun h_5 =>
                R h_5
              else
                R h_4
              )
            else
              Ld (.int .i64) h_4 m1 fun (Kind2 : Int) =>
              (bif Kind2 == 3 then
                Ld (.int .i64) h_4 m1 fun (x_Kind2 : Int) =>
                Ld (.int .i64) h_4 (m1.add 1) fun (x_From2 : Int) =>
                Ld (.int .i64) h_4 (m1.add 2) fun (x_To2 : Int) =>
                Ld (.int .i64) h_4 (m1.add 3) fun (x_Term2 : Int) =>
                Ld (.int .i64) h_4 (m1.add 4) fun (x_Index2 : Int) =>
                Ld (.int .i64) h_4 (m1.add 5) fun (x_LogTerm2 : Int) =>
                Ld (.int .i64) h_4 (m1.add 6) fun (x_Commit2 : Int) =>
                Ld .bool h_4 (m1.add 7) fun (x_Yes2 : Bool) =>
                Ld .sl h_4 (m1.add 8) fun (x_Entries2 : Sl) =>
                C_raft_Node_askVote x (x_Kind2, x_From2, x_To2, x_Term2, x_Index2, x_LogTerm2, x_Commit2, x_Yes2, x_Entries2, ()) h_4 fun h_6 =>
                R h_6
              else
                Ld (.int .i64) h_4 m1 fun (Kind3 : Int) =>
                (bif Kind3 == 4 then
                  Ld (.int .i64) h_4 m1 fun (x_Kind3 : Int) =>
                  Ld (.int .i64) h_4 (m1.add 1) fun (x_From3 : Int) =>
                  Ld (.int .i64) h_4 (m1.add 2) fun (x_To3 : Int) =>
                  Ld (.int .i64) h_4 (m1.add 3) fun (x_Term3 : Int) =>
                  Ld (.int .i64) h_4 (m1.add 4) fun (x_Index3 : Int) =>
                  Ld (.int .i64) h_4 (m1.add 5) fun (x_LogTerm3 : Int) =>
                  Ld (.int .i64) h_4 (m1.add 6) fun (x_Commit3 : Int) =>
                  Ld .bool h_4 (m1.add 7) fun (x_Yes3 : Bool) =>
                  Ld .sl h_4 (m1.add 8) fun (x_Entries3 : Sl) =>
                  C_raft_Node_tellVote x (x_Kind3, x_From3, x_To3, x_Term3, x_Index3, x_LogTerm3, x_Commit3, x_Yes3, x_Entries3, ()) h_4 fun h_7 =>
                  R h_7
                else
                  Ld (.int .i64) h_4 m1 fun (Kind4 : Int) =>
                  (bif Kind4 == 5 then
                    Ld (.int .i64) h_4 m1 fun (x_Kind4 : Int) =>
                    Ld (.int .i64) h_4 (m1.add 1) fun (x_From4 : Int) =>
                    Ld (.int .i64) h_4 (m1.add 2) fun (x_To4 : Int) =>
                    Ld (.int .i64) h_4 (m1.add 3) fun (x_Term4 : Int) =>
                    Ld (.int .i64) h_4 (m1.add 4) fun (x_Index4 : Int) =>
                    Ld (.int .i64) h_4 (m1.add 5) fun (x_LogTerm4 : Int) =>
                    Ld (.int .i64) h_4 (m1.add 6) fun (x_Commit4 : Int) =>
                    Ld .bool h_4 (m1.add 7) fun (x_Yes4 : Bool) =>
                    Ld .sl h_4 (m1.add 8) fun (x_Entries4 : Sl) =>
                    C_raft_Node_append x (x_Kind4, x_From4, x_To4, x_Term4, x_Index4, x_LogTerm4, x_Commit4, x_Yes4, x_Entries4, ()) h_4 fun h_8 =>
                    R h_8
                  else
                    Ld (.int .i64) h_4 m1 fun (x_Kind5 : Int) =>
                    Ld (.int .i64) h_4 (m1.add 1) fun (x_From5 : Int) =>
                    Ld (.int .i64) h_4 (m1.add 2) fun (x_To5 : Int) =>
                    Ld (.int .i64) h_4 (m1.add 3) fun (x_Term5 : Int) =>
                    Ld (.int .i64) h_4 (m1.add 4) fun (x_Index5 : Int) =>
                    Ld (.int .i64) h_4 (m1.add 5) fun (x_LogTerm5 : Int) =>
                    Ld (.int .i64) h_4 (m1.add 6) fun (x_Commit5 : Int) =>
                    Ld .bool h_4 (m1.add 7) fun (x_Yes5 : Bool) =>
                    Ld .sl h_4 (m1.add 8) fun (x_Entries5 : Sl) =>
                    C_raft_Node_hears x (x_Kind5, x_From5, x_To5, x_Term5, x_Index5, x_LogTerm5, x_Commit5, x_Yes5, x_Entries5, ()) h_4 fun h_9 =>
                    R h_9
                  )
                )
              )
            )
            ) fun J1 =>
          (bif decide (Term > term) then
            Ld (.int .i64) h_1 (m1.add 3) fun (Term2 : Int) =>
            C_raft_Node_follow x Term2 (-1) h_1 fun h_10 =>
            J1  h_10
          else
            J1  h_1
          )
        )
      )
    )
    ) fun J =>
  (bif x.isNone then
    J true h_
  else
    Ld (.int .i64) h_ m1 fun (x_Kind6 : Int) =>
    Ld (.int .i64) h_ (m1.add 1) fun (x_From6 : Int) =>
    Ld (.int .i64) h_ (m1.add 2) fun (x_To6 : Int) =>
    Ld (.int .i64) h_ (m1.add 3) fun (x_Term6 : Int) =>
    Ld (.int .i64) h_ (m1.add 4) fun (x_Index6 : Int) =>
    Ld (.int .i64) h_ (m1.add 5) fun (x_LogTerm6 : Int) =>
    Ld (.int .i64) h_ (m1.add 6) fun (x_Commit6 : Int) =>
    Ld .bool h_ (m1.add 7) fun (x_Yes6 : Bool) =>
    Ld .sl h_ (m1.add 8) fun (x_Entries6 : Sl) =>
    C_raft_Node_counts x (x_Kind6, x_From6, x_To6, x_Term6, x_Index6, x_LogTerm6, x_Commit6, x_Yes6, x_Entries6, ()) h_ fun (r : Bool) h_11 =>
    J (!r) h_11
  )
theorem E_raft_Node_Step (x : Option Addr) (m : KL [.int .i64, .int .i64, .int .i64, .int .i64, .int .i64, .int .i64, .int .i64, .bool, .sl]) (h : Heap) (R : Heap → Prop) :
    VF Tryz.prog [(12, [(11, .one .bool)]), (61, [])] Tryz.f55 [.pointer x, .agg ⟨KL.vals [.int .i64, .int .i64, .int .i64, .int .i64, .int .i64, .int .i64, .int .i64, .bool, .sl] m⟩] h [] R = S_raft_Node_Step x m h R := by kernel_rfl
theorem A_raft_Node_Step {x : Option Addr} {m : KL [.int .i64, .int .i64, .int .i64, .int .i64, .int .i64, .int .i64, .int .i64, .bool, .sl]} {h : Heap} {R : Heap → Prop} (hs : S_raft_Node_Step x m h R) : C_raft_Node_Step x m h R :=
  use_ Tryz.func55 (by kernel_rfl) (E_raft_Node_Step x m h R) hs

/-- (*raft.Node).Out -/
def S_raft_Node_Out (x : Option Addr) (h : Heap) (R : Sl → Heap → Prop) : Prop :=
  (bif x.isNone then
    R ⟨none, 0, 0⟩ h
  else
    Nn x fun p =>
    Ld .sl h (p.add 28) fun (out : Sl) =>
    Nn x fun p1 =>
    St h (p1.add 28) (.slice none 0 0) fun h_ =>
    R out h_
  )
theorem E_raft_Node_Out (x : Option Addr) (h : Heap) (R : Sl → Heap → Prop) :
    VF Tryz.prog [] Tryz.f68 [.pointer x] h [.one .sl] R = S_raft_Node_Out x h R := by kernel_rfl
theorem A_raft_Node_Out {x : Option Addr} {h : Heap} {R : Sl → Heap → Prop} (hs : S_raft_Node_Out x h R) : C_raft_Node_Out x h R :=
  use_ Tryz.func68 (by kernel_rfl) (E_raft_Node_Out x h R) hs

/-- (*raft.Node).lead -/
def S_raft_Node_lead (x : Option Addr) (h : Heap) (R : Heap → Prop) : Prop :=
  Nn x fun p =>
  Ld (.int .i64) h (p.add 9) fun (quiet : Int) =>
  Nn x fun p1 =>
  St h (p1.add 9) (.int .i64 (IntKind.i64.wrap (quiet + 1))) fun h_ =>
  Nn x fun p2 =>
  Ld (.int .i64) h_ (p2.add 9) fun (quiet1 : Int) =>
  Nn x fun p3 =>
  Ld (.int .i64) h_ (p3.add 2) fun (elect : Int) =>
  Join [] (fun _ h_1 =>
    Nn x fun p4 =>
    Ld (.int .i64) h_1 (p4.add 8) fun (since : Int) =>
    Nn x fun p5 =>
    Ld (.int .i64) h_1 (p5.add 3) fun (beat : Int) =>
    (bif decide (since ≥ beat) then
      C_raft_Node_toAll x h_1 fun h_2 =>
      R h_2
    else
      R h_1
    )
    ) fun J =>
  (bif decide (quiet1 ≥ elect) then
    Nn x fun p6 =>
    Ld (.int .u64) h_ (p6.add 13) fun (heard : Int) =>
    Nn x fun p7 =>
    Ld (.int .i64) h_ p7 fun (id : Int) =>
    Nneg (IntKind.u64.wrap id) (
    Let (bitV .or .u64 heard (shiftV .shl .u64 1 (IntKind.u64.wrap id)) : Int) fun heard1 =>
    Nn x fun p8 =>
    St h_ (p8.add 9) (.int .i64 0) fun h_3 =>
    Nn x fun p9 =>
    St h_3 (p9.add 13) (.int .u64 0) fun h_4 =>
    C_raft_Node_most x heard1 h_4 fun (r : Bool) h_5 =>
    (bif !r then
      Nn x fun p10 =>
      Ld (.int .i64) h_5 (p10.add 4) fun (term : Int) =>
      C_raft_Node_follow x term (-1) h_5 fun h_6 =>
      Nn x fun p11 =>
      St h_6 (p11.add 8) (.int .i64 0) fun h_7 =>
      R h_7
    else
      J  h_5
    )
    )
  else
    J  h_
  )
theorem E_raft_Node_lead (x : Option Addr) (h : Heap) (R : Heap → Prop) :
    VF Tryz.prog [(13, [])] Tryz.f70 [.pointer x] h [] R = S_raft_Node_lead x h R := by kernel_rfl
theorem A_raft_Node_lead {x : Option Addr} {h : Heap} {R : Heap → Prop} (hs : S_raft_Node_lead x h R) : C_raft_Node_lead x h R :=
  use_ Tryz.func70 (by kernel_rfl) (E_raft_Node_lead x h R) hs

/-- (*raft.Node).asks -/
def S_raft_Node_asks (x : Option Addr) (h : Heap) (R : Heap → Prop) : Prop :=
  Nn x fun p =>
  Ld (.int .i64) h p fun (id : Int) =>
  Nneg (IntKind.u64.wrap id) (
  Nn x fun p1 =>
  St h (p1.add 8) (.int .i64 0) fun h_ =>
  Nn x fun p2 =>
  St h_ (p2.add 6) (.int .i64 1) fun h_1 =>
  Nn x fun p3 =>
  St h_1 (p3.add 7) (.int .i64 (-1)) fun h_2 =>
  Nn x fun p4 =>
  St h_2 (p4.add 12) (.int .u64 (shiftV .shl .u64 1 (IntKind.u64.wrap id))) fun h_3 =>
  Nn x fun p5 =>
  Ld (.int .u64) h_3 (p5.add 12) fun (votes : Int) =>
  C_raft_Node_most x votes h_3 fun (r : Bool) h_4 =>
  (bif r then
    C_raft_Node_stands x h_4 fun h_5 =>
    R h_5
  else
    Nn x fun p6 =>
    Ld .ptr h_4 (p6.add 11) fun (log : Option Addr) =>
    C_log_Log_Last log h_4 fun (r1 : Int) (r2 : Int) h_6 =>
    Nn x fun p7 =>
    Ld (.int .i64) h_6 (p7.add 4) fun (term : Int) =>
    C_raft_Node_all x (1, 0, 0, IntKind.i64.wrap (term + 1), r1, r2, 0, false, ⟨none, 0, 0⟩, ()) h_6 fun h_7 =>
    R h_7
  )
  )
theorem E_raft_Node_asks (x : Option Addr) (h : Heap) (R : Heap → Prop) :
    VF Tryz.prog [] Tryz.f71 [.pointer x] h [] R = S_raft_Node_asks x h R := by kernel_rfl
theorem A_raft_Node_asks {x : Option Addr} {h : Heap} {R : Heap → Prop} (hs : S_raft_Node_asks x h R) : C_raft_Node_asks x h R :=
  use_ Tryz.func71 (by kernel_rfl) (E_raft_Node_asks x h R) hs

/-- (*raft.Node).add -/
def S_raft_Node_add (x : Option Addr) (data : ByteArray) (h : Heap) (R : Int → Heap → Prop) : Prop :=
  Nn x fun p =>
  Ld .ptr h (p.add 11) fun (log : Option Addr) =>
  Nn x fun p1 =>
  Ld (.int .i64) h (p1.add 4) fun (term : Int) =>
  C_log_Log_Add log (term, data, ()) h fun (r : Int) h_ =>
  (bif r != 0 then
    R r h_
  else
    Nn x fun p2 =>
    Ld .ptr h_ (p2.add 11) fun (log1 : Option Addr) =>
    C_log_Log_Last log1 h_ fun (r1 : Int) (r2 : Int) h_1 =>
    C_raft_Node_dirty x r1 h_1 fun h_2 =>
    C_raft_Node_toAll x h_2 fun h_3 =>
    C_raft_Node_agree x h_3 fun h_4 =>
    R 0 h_4
  )
theorem E_raft_Node_add (x : Option Addr) (data : ByteArray) (h : Heap) (R : Int → Heap → Prop) :
    VF Tryz.prog [] Tryz.f72 [.pointer x, .string data] h [.one (.int .i64)] R = S_raft_Node_add x data h R := by kernel_rfl
theorem A_raft_Node_add {x : Option Addr} {data : ByteArray} {h : Heap} {R : Int → Heap → Prop} (hs : S_raft_Node_add x data h R) : C_raft_Node_add x data h R :=
  use_ Tryz.func72 (by kernel_rfl) (E_raft_Node_add x data h R) hs

/-- (*raft.Node).counts -/
def S_raft_Node_counts (x : Option Addr) (m : KL [.int .i64, .int .i64, .int .i64, .int .i64, .int .i64, .int .i64, .int .i64, .bool, .sl]) (h : Heap) (R : Bool → Heap → Prop) : Prop :=
  Alloc h (.cells #[.int .i64 m.1, .int .i64 m.2.1, .int .i64 m.2.2.1, .int .i64 m.2.2.2.1, .int .i64 m.2.2.2.2.1, .int .i64 m.2.2.2.2.2.1, .int .i64 m.2.2.2.2.2.2.1, .bool m.2.2.2.2.2.2.2.1, .slice m.2.2.2.2.2.2.2.2.1.a m.2.2.2.2.2.2.2.2.1.n m.2.2.2.2.2.2.2.2.1.c] 59) fun m1 h_ =>
  Ld (.int .i64) h_ (m1.add 2) fun (To : Int) =>
  Nn x fun p =>
  Ld (.int .i64) h_ p fun (id : Int) =>
  (bif To == id then
    Ld (.int .i64) h_ (m1.add 1) fun (From : Int) =>
    Nn x fun p1 =>
    Ld (.int .i64) h_ p1 fun (id1 : Int) =>
    (bif From != id1 then
      Ld (.int .i64) h_ (m1.add 1) fun (From1 : Int) =>
      (bif decide (From1 ≥ 0) then
        Ld (.int .i64) h_ (m1.add 1) fun (From2 : Int) =>
        Nn x fun p2 =>
        Ld (.int .i64) h_ (p2.add 1) fun (n : Int) =>
        (bif decide (From2 < n) then
          Ld (.int .i64) h_ m1 fun (Kind : Int) =>
          (bif decide (Kind ≥ 1) then
            Ld (.int .i64) h_ m1 fun (Kind1 : Int) =>
            (bif decide (Kind1 ≤ 6) then
              Ld (.int .i64) h_ (m1.add 3) fun (Term : Int) =>
              (bif decide (Term ≥ 0) then
                Ld (.int .i64) h_ (m1.add 3) fun (Term1 : Int) =>
                (bif decide (Term1 ≤ 1099511627776) then
                  Ld .sl h_ (m1.add 8) fun (Entries : Sl) =>
                  (bif decide ((Entries.n : Int) ≤ 8) then
                    Ld .sl h_ (m1.add 8) fun (Entries1 : Sl) =>
                    C_slices_ContainsFunc_api_Entry_api_Entry Entries1 (.func (.func 100) #[] #[.pointer (some m1)]) h_ fun (r : Bool) h_1 =>
                    R (!r) h_1
                  else
                    R false h_
                  )
                else
                  R false h_
                )
              else
                R false h_
              )
            else
              R false h_
            )
          else
            R false h_
          )
        else
          R false h_
        )
      else
        R false h_
      )
    else
      R false h_
    )
  else
    R false h_
  )
theorem E_raft_Node_counts (x : Option Addr) (m : KL [.int .i64, .int .i64, .int .i64, .int .i64, .int .i64, .int .i64, .int .i64, .bool, .sl]) (h : Heap) (R : Bool → Heap → Prop) :
    VF Tryz.prog [] Tryz.f76 [.pointer x, .agg ⟨KL.vals [.int .i64, .int .i64, .int .i64, .int .i64, .int .i64, .int .i64, .int .i64, .bool, .sl] m⟩] h [.one .bool] R = S_raft_Node_counts x m h R := by kernel_rfl
theorem A_raft_Node_counts {x : Option Addr} {m : KL [.int .i64, .int .i64, .int .i64, .int .i64, .int .i64, .int .i64, .int .i64, .bool, .sl]} {h : Heap} {R : Bool → Heap → Prop} (hs : S_raft_Node_counts x m h R) : C_raft_Node_counts x m h R :=
  use_ Tryz.func76 (by kernel_rfl) (E_raft_Node_counts x m h R) hs

/-- (*raft.Node).askPre -/
def S_raft_Node_askPre (x : Option Addr) (m : KL [.int .i64, .int .i64, .int .i64, .int .i64, .int .i64, .int .i64, .int .i64, .bool, .sl]) (h : Heap) (R : Heap → Prop) : Prop :=
  Alloc h (.cells #[.int .i64 m.1, .int .i64 m.2.1, .int .i64 m.2.2.1, .int .i64 m.2.2.2.1, .int .i64 m.2.2.2.2.1, .int .i64 m.2.2.2.2.2.1, .int .i64 m.2.2.2.2.2.2.1, .bool m.2.2.2.2.2.2.2.1, .slice m.2.2.2.2.2.2.2.2.1.a m.2.2.2.2.2.2.2.2.1.n m.2.2.2.2.2.2.2.2.1.c] 59) fun m1 h_ =>
  Join [.one .bool] (fun _ (yes : Bool) h_1 =>
    Nn x fun p =>
    Ld (.int .i64) h_1 (p.add 4) fun (term : Int) =>
    (bif yes then
      Ld (.int .i64) h_1 (m1.add 3) fun (Term : Int) =>
      Ld (.int .i64) h_1 (m1.add 1) fun (From : Int) =>
      C_raft_Node_send x From (2, 0, 0, Term, 0, 0, 0, yes, ⟨none, 0, 0⟩, ()) h_1 fun h_2 =>
      R h_2
    else
      Ld (.int .i64) h_1 (m1.add 1) fun (From1 : Int) =>
      C_raft_Node_send x From1 (2, 0, 0, term, 0, 0, 0, yes, ⟨none, 0, 0⟩, ()) h_1 fun h_3 =>
      R h_3
    )
    ) fun J =>
  Ld (.int .i64) h_ (m1.add 3) fun (Term1 : Int) =>
  Nn x fun p1 =>
  Ld (.int .i64) h_ (p1.add 4) fun (term1 : Int) =>
  (bif decide (Term1 > term1) then
    Nn x fun p2 =>
    Ld .ptr h_ (p2.add 11) fun (log : Option Addr) =>
    Ld (.int .i64) h_ (m1.add 4) fun (Index : Int) =>
    Ld (.int .i64) h_ (m1.add 5) fun (LogTerm : Int) =>
    C_log_Log_Younger log Index LogTerm h_ fun (r : Bool) h_4 =>
    (bif r then
      Nn x fun p3 =>
      Ld (.int .i64) h_4 (p3.add 6) fun (role : Int) =>
      (bif role != 3 then
        Nn x fun p4 =>
        Ld (.int .i64) h_4 (p4.add 7) fun (leader : Int) =>
        (bif leader == (-1) then
          J true h_4
        else
          Nn x fun p5 =>
          Ld (.int .i64) h_4 (p5.add 8) fun (since : Int) =>
          Nn x fun p6 =>
          Ld (.int .i64) h_4 (p6.add 2) fun (elect : Int) =>
          Let (decide (since ≥ elect) : Bool) fun yes1 =>
          J yes1 h_4
        )
      else
        J false h_4
      )
    else
      J false h_4
    )
  else
    J false h_
  )
theorem E_raft_Node_askPre (x : Option Addr) (m : KL [.int .i64, .int .i64, .int .i64, .int .i64, .int .i64, .int .i64, .int .i64, .bool, .sl]) (h : Heap) (R : Heap → Prop) :
    VF Tryz.prog [(6, [(4, .one .bool)])] Tryz.f77 [.pointer x, .agg ⟨KL.vals [.int .i64, .int .i64, .int .i64, .int .i64, .int .i64, .int .i64, .int .i64, .bool, .sl] m⟩] h [] R = S_raft_Node_askPre x m h R := by kernel_rfl
theorem A_raft_Node_askPre {x : Option Addr} {m : KL [.int .i64, .int .i64, .int .i64, .int .i64, .int .i64, .int .i64, .int .i64, .bool, .sl]} {h : Heap} {R : Heap → Prop} (hs : S_raft_Node_askPre x m h R) : C_raft_Node_askPre x m h R :=
  use_ Tryz.func77 (by kernel_rfl) (E_raft_Node_askPre x m h R) hs

/-- (*raft.Node).tellPre -/
def S_raft_Node_tellPre (x : Option Addr) (m : KL [.int .i64, .int .i64, .int .i64, .int .i64, .int .i64, .int .i64, .int .i64, .bool, .sl]) (h : Heap) (R : Heap → Prop) : Prop :=
  Alloc h (.cells #[.int .i64 m.1, .int .i64 m.2.1, .int .i64 m.2.2.1, .int .i64 m.2.2.2.1, .int .i64 m.2.2.2.2.1, .int .i64 m.2.2.2.2.2.1, .int .i64 m.2.2.2.2.2.2.1, .bool m.2.2.2.2.2.2.2.1, .slice m.2.2.2.2.2.2.2.2.1.a m.2.2.2.2.2.2.2.2.1.n m.2.2.2.2.2.2.2.2.1.c] 59) fun m1 h_ =>
  Join [.one .bool] (fun _ (x4 : Bool) h_1 =>
    (bif x4 then
      Ld (.int .i64) h_1 (m1.add 3) fun (Term : Int) =>
      C_raft_Node_follow x Term (-1) h_1 fun h_2 =>
      R h_2
    else
      Join [.one .bool] (fun _ (x21 : Bool) h_3 =>
        (bif x21 then
          Nn x fun p =>
          Ld (.int .u64) h_3 (p.add 12) fun (votes : Int) =>
          Ld (.int .i64) h_3 (m1.add 1) fun (From : Int) =>
          Nneg (IntKind.u64.wrap From) (
          Nn x fun p1 =>
          St h_3 (p1.add 12) (.int .u64 (bitV .or .u64 votes (shiftV .shl .u64 1 (IntKind.u64.wrap From)))) fun h_4 =>
          Nn x fun p2 =>
          Ld (.int .u64) h_4 (p2.add 12) fun (votes1 : Int) =>
          C_raft_Node_most x votes1 h_4 fun (r : Bool) h_5 =>
          (bif r then
            C_raft_Node_stands x h_5 fun h_6 =>
            R h_6
          else
            R h_5
          )
          )
        else
          R h_3
        )
        ) fun J1 =>
      Ld .bool h_1 (m1.add 7) fun (Yes : Bool) =>
      (bif Yes then
        Ld (.int .i64) h_1 (m1.add 3) fun (Term1 : Int) =>
        Nn x fun p3 =>
        Ld (.int .i64) h_1 (p3.add 4) fun (term : Int) =>
        (bif Term1 == (IntKind.i64.wrap (term + 1)) then
          Nn x fun p4 =>
          Ld (.int .i64) h_1 (p4.add 6) fun (role : Int) =>
          J1 (role == 1) h_1
        else
          J1 false h_1
        )
      else
        J1 false h_1
      )
    )
    ) fun J =>
  Ld .bool h_ (m1.add 7) fun (Yes1 : Bool) =>
  (bif !Yes1 then
    Ld (.int .i64) h_ (m1.add 3) fun (Term2 : Int) =>
    Nn x fun p5 =>
    Ld (.int .i64) h_ (p5.add 4) fun (term1 : Int) =>
    J (decide (Term2 > term1)) h_
  else
    J false h_
  )
theorem E_raft_Node_tellPre (x : Option Addr) (m : KL [.int .i64, .int .i64, .int .i64, .int .i64, .int .i64, .int .i64, .int .i64, .bool, .sl]) (h : Heap) (R : Heap → Prop) :
    VF Tryz.prog [(12, [(4, .one .bool)]), (54, [(21, .one .bool)])] Tryz.f78 [.pointer x, .agg ⟨KL.vals [.int .i64, .int .i64, .int .i64, .int .i64, .int .i64, .int .i64, .int .i64, .bool, .sl] m⟩] h [] R = S_raft_Node_tellPre x m h R := by kernel_rfl
theorem A_raft_Node_tellPre {x : Option Addr} {m : KL [.int .i64, .int .i64, .int .i64, .int .i64, .int .i64, .int .i64, .int .i64, .bool, .sl]} {h : Heap} {R : Heap → Prop} (hs : S_raft_Node_tellPre x m h R) : C_raft_Node_tellPre x m h R :=
  use_ Tryz.func78 (by kernel_rfl) (E_raft_Node_tellPre x m h R) hs

/-- (*raft.Node).follow -/
def S_raft_Node_follow (x : Option Addr) (term : Int) (leader : Int) (h : Heap) (R : Heap → Prop) : Prop :=
  Nn x fun p =>
  Ld (.int .i64) h (p.add 4) fun (term1 : Int) =>
  Join [] (fun _ h_ =>
    Nn x fun p1 =>
    St h_ (p1.add 6) (.int .i64 0) fun h_1 =>
    Nn x fun p2 =>
    St h_1 (p2.add 7) (.int .i64 leader) fun h_2 =>
    R h_2
    ) fun J =>
  (bif decide (term > term1) then
    Nn x fun p3 =>
    St h (p3.add 4) (.int .i64 term) fun h_3 =>
    Nn x fun p4 =>
    St h_3 (p4.add 5) (.int .i64 (-1)) fun h_4 =>
    Nn x fun p5 =>
    St h_4 (p5.add 29) (.bool true) fun h_5 =>
    J  h_5
  else
    J  h
  )
theorem E_raft_Node_follow (x : Option Addr) (term : Int) (leader : Int) (h : Heap) (R : Heap → Prop) :
    VF Tryz.prog [(5, [])] Tryz.f79 [.pointer x, .int .i64 term, .int .i64 leader] h [] R = S_raft_Node_follow x term leader h R := by kernel_rfl
theorem A_raft_Node_follow {x : Option Addr} {term : Int} {leader : Int} {h : Heap} {R : Heap → Prop} (hs : S_raft_Node_follow x term leader h R) : C_raft_Node_follow x term leader h R :=
  use_ Tryz.func79 (by kernel_rfl) (E_raft_Node_follow x term leader h R) hs

/-- (*raft.Node).told -/
def S_raft_Node_told (x : Option Addr) (to : Int) (yes : Bool) (index : Int) (h : Heap) (R : Heap → Prop) : Prop :=
  Nn x fun p =>
  Ld (.int .i64) h (p.add 4) fun (term : Int) =>
  C_raft_Node_send x to (6, 0, 0, term, index, 0, 0, yes, ⟨none, 0, 0⟩, ()) h fun h_ =>
  R h_
theorem E_raft_Node_told (x : Option Addr) (to : Int) (yes : Bool) (index : Int) (h : Heap) (R : Heap → Prop) :
    VF Tryz.prog [] Tryz.f80 [.pointer x, .int .i64 to, .bool yes, .int .i64 index] h [] R = S_raft_Node_told x to yes index h R := by kernel_rfl
theorem A_raft_Node_told {x : Option Addr} {to : Int} {yes : Bool} {index : Int} {h : Heap} {R : Heap → Prop} (hs : S_raft_Node_told x to yes index h R) : C_raft_Node_told x to yes index h R :=
  use_ Tryz.func80 (by kernel_rfl) (E_raft_Node_told x to yes index h R) hs

/-- (*raft.Node).askVote -/
def S_raft_Node_askVote (x : Option Addr) (m : KL [.int .i64, .int .i64, .int .i64, .int .i64, .int .i64, .int .i64, .int .i64, .bool, .sl]) (h : Heap) (R : Heap → Prop) : Prop :=
  Alloc h (.cells #[.int .i64 m.1, .int .i64 m.2.1, .int .i64 m.2.2.1, .int .i64 m.2.2.2.1, .int .i64 m.2.2.2.2.1, .int .i64 m.2.2.2.2.2.1, .int .i64 m.2.2.2.2.2.2.1, .bool m.2.2.2.2.2.2.2.1, .slice m.2.2.2.2.2.2.2.2.1.a m.2.2.2.2.2.2.2.2.1.n m.2.2.2.2.2.2.2.2.1.c] 59) fun m1 h_ =>
  Join [.one .bool] (fun _ (yes : Bool) h_1 =>
    Join [] (fun _ h_2 =>
      Ld (.int .i64) h_2 (m1.add 1) fun (From : Int) =>
      Nn x fun p =>
      Ld (.int .i64) h_2 (p.add 4) fun (term : Int) =>
      C_raft_Node_send x From (4, 0, 0, term, 0, 0, 0, yes, ⟨none, 0, 0⟩, ()) h_2 fun h_3 =>
      R h_3
      ) fun J1 =>
    (bif yes then
      Join [] (fun _ h_4 =>
        Ld (.int .i64) h_4 (m1.add 1) fun (From1 : Int) =>
        Nn x fun p1 =>
        St h_4 (p1.add 5) (.int .i64 From1) fun h_5 =>
        Nn x fun p2 =>
        St h_5 (p2.add 8) (.int .i64 0) fun h_6 =>
        J1  h_6
        ) fun J2 =>
      Nn x fun p3 =>
      Ld .bool h_1 (p3.add 29) fun (hard : Bool) =>
      (bif hard then
        Nn x fun p4 =>
        St h_1 (p4.add 29) (.bool true) fun h_7 =>
        J2  h_7
      else
        Nn x fun p5 =>
        Ld (.int .i64) h_1 (p5.add 5) fun (vote : Int) =>
        Ld (.int .i64) h_1 (m1.add 1) fun (From2 : Int) =>
        Nn x fun p6 =>
        St h_1 (p6.add 29) (.bool (vote != From2)) fun h_8 =>
        J2  h_8
      )
    else
      J1  h_1
    )
    ) fun J =>
  Nn x fun p7 =>
  Ld (.int .i64) h_ (p7.add 5) fun (vote1 : Int) =>
  (bif vote1 == (-1) then
    Nn x fun p8 =>
    Ld (.int .i64) h_ (p8.add 6) fun (role : Int) =>
    (bif role != 3 then
      Nn x fun p9 =>
      Ld .ptr h_ (p9.add 11) fun (log : Option Addr) =>
      Ld (.int .i64) h_ (m1.add 4) fun (Index : Int) =>
      Ld (.int .i64) h_ (m1.add 5) fun (LogTerm : Int) =>
      C_log_Log_Younger log Index LogTerm h_ fun (r : Bool) h_9 =>
      J r h_9
    else
      J false h_
    )
  else
    Nn x fun p10 =>
    Ld (.int .i64) h_ (p10.add 5) fun (vote2 : Int) =>
    Ld (.int .i64) h_ (m1.add 1) fun (From3 : Int) =>
    (bif vote2 == From3 then
      Nn x fun p11 =>
      Ld (.int .i64) h_ (p11.add 6) fun (role1 : Int) =>
      (bif role1 != 3 then
        Nn x fun p12 =>
        Ld .ptr h_ (p12.add 11) fun (log1 : Option Addr) =>
        Ld (.int .i64) h_ (m1.add 4) fun (Index1 : Int) =>
        Ld (.int .i64) h_ (m1.add 5) fun (LogTerm1 : Int) =>
        C_log_Log_Younger log1 Index1 LogTerm1 h_ fun (r1 : Bool) h_10 =>
        J r1 h_10
      else
        J false h_
      )
    else
      J false h_
    )
  )
theorem E_raft_Node_askVote (x : Option Addr) (m : KL [.int .i64, .int .i64, .int .i64, .int .i64, .int .i64, .int .i64, .int .i64, .bool, .sl]) (h : Heap) (R : Heap → Prop) :
    VF Tryz.prog [(6, [(4, .one .bool)]), (29, []), (116, [])] Tryz.f81 [.pointer x, .agg ⟨KL.vals [.int .i64, .int .i64, .int .i64, .int .i64, .int .i64, .int .i64, .int .i64, .bool, .sl] m⟩] h [] R = S_raft_Node_askVote x m h R := by kernel_rfl
theorem A_raft_Node_askVote {x : Option Addr} {m : KL [.int .i64, .int .i64, .int .i64, .int .i64, .int .i64, .int .i64, .int .i64, .bool, .sl]} {h : Heap} {R : Heap → Prop} (hs : S_raft_Node_askVote x m h R) : C_raft_Node_askVote x m h R :=
  use_ Tryz.func81 (by kernel_rfl) (E_raft_Node_askVote x m h R) hs

/-- (*raft.Node).tellVote -/
def S_raft_Node_tellVote (x : Option Addr) (m : KL [.int .i64, .int .i64, .int .i64, .int .i64, .int .i64, .int .i64, .int .i64, .bool, .sl]) (h : Heap) (R : Heap → Prop) : Prop :=
  Alloc h (.cells #[.int .i64 m.1, .int .i64 m.2.1, .int .i64 m.2.2.1, .int .i64 m.2.2.2.1, .int .i64 m.2.2.2.2.1, .int .i64 m.2.2.2.2.2.1, .int .i64 m.2.2.2.2.2.2.1, .bool m.2.2.2.2.2.2.2.1, .slice m.2.2.2.2.2.2.2.2.1.a m.2.2.2.2.2.2.2.2.1.n m.2.2.2.2.2.2.2.2.1.c] 59) fun m1 h_ =>
  Join [.one .bool] (fun _ (x13 : Bool) h_1 =>
    (bif x13 then
      R h_1
    else
      Nn x fun p =>
      Ld (.int .u64) h_1 (p.add 12) fun (votes : Int) =>
      Ld (.int .i64) h_1 (m1.add 1) fun (From : Int) =>
      Nneg (IntKind.u64.wrap From) (
      Nn x fun p1 =>
      St h_1 (p1.add 12) (.int .u64 (bitV .or .u64 votes (shiftV .shl .u64 1 (IntKind.u64.wrap From)))) fun h_2 =>
      Nn x fun p2 =>
      Ld (.int .u64) h_2 (p2.add 12) fun (votes1 : Int) =>
      C_raft_Node_most x votes1 h_2 fun (r : Bool) h_3 =>
      (bif r then
        C_raft_Node_leads x h_3 fun h_4 =>
        R h_4
      else
        R h_3
      )
      )
    )
    ) fun J =>
  Ld .bool h_ (m1.add 7) fun (Yes : Bool) =>
  (bif !Yes then
    J true h_
  else
    Nn x fun p3 =>
    Ld (.int .i64) h_ (p3.add 6) fun (role : Int) =>
    J (role != 2) h_
  )
theorem E_raft_Node_tellVote (x : Option Addr) (m : KL [.int .i64, .int .i64, .int .i64, .int .i64, .int .i64, .int .i64, .int .i64, .bool, .sl]) (h : Heap) (R : Heap → Prop) :
    VF Tryz.prog [(12, [(13, .one .bool)])] Tryz.f82 [.pointer x, .agg ⟨KL.vals [.int .i64, .int .i64, .int .i64, .int .i64, .int .i64, .int .i64, .int .i64, .bool, .sl] m⟩] h [] R = S_raft_Node_tellVote x m h R := by kernel_rfl
theorem A_raft_Node_tellVote {x : Option Addr} {m : KL [.int .i64, .int .i64, .int .i64, .int .i64, .int .i64, .int .i64, .int .i64, .bool, .sl]} {h : Heap} {R : Heap → Prop} (hs : S_raft_Node_tellVote x m h R) : C_raft_Node_tellVote x m h R :=
  use_ Tryz.func82 (by kernel_rfl) (E_raft_Node_tellVote x m h R) hs

/-- (*raft.Node).append -/
def S_raft_Node_append (x : Option Addr) (m : KL [.int .i64, .int .i64, .int .i64, .int .i64, .int .i64, .int .i64, .int .i64, .bool, .sl]) (h : Heap) (R : Heap → Prop) : Prop :=
  Alloc h (.cells #[.int .i64 m.1, .int .i64 m.2.1, .int .i64 m.2.2.1, .int .i64 m.2.2.2.1, .int .i64 m.2.2.2.2.1, .int .i64 m.2.2.2.2.2.1, .int .i64 m.2.2.2.2.2.2.1, .bool m.2.2.2.2.2.2.2.1, .slice m.2.2.2.2.2.2.2.2.1.a m.2.2.2.2.2.2.2.2.1.n m.2.2.2.2.2.2.2.2.1.c] 59) fun m1 h_ =>
  Nn x fun p =>
  Ld (.int .i64) h_ (p.add 6) fun (role : Int) =>
  (bif role == 3 then
    R h_
  else
    Nn x fun p1 =>
    Ld (.int .i64) h_ (p1.add 4) fun (term : Int) =>
    Ld (.int .i64) h_ (m1.add 1) fun (From : Int) =>
    C_raft_Node_follow x term From h_ fun h_1 =>
    Nn x fun p2 =>
    St h_1 (p2.add 8) (.int .i64 0) fun h_2 =>
    Ld (.int .i64) h_2 (m1.add 4) fun (Index : Int) =>
    Nn x fun p3 =>
    Ld (.int .i64) h_2 (p3.add 10) fun (commit : Int) =>
    (bif decide (Index < commit) then
      Ld (.int .i64) h_2 (m1.add 1) fun (From1 : Int) =>
      Nn x fun p4 =>
      Ld (.int .i64) h_2 (p4.add 10) fun (commit1 : Int) =>
      C_raft_Node_told x From1 true commit1 h_2 fun h_3 =>
      R h_3
    else
      Nn x fun p5 =>
      Ld .ptr h_2 (p5.add 11) fun (log : Option Addr) =>
      Ld (.int .i64) h_2 (m1.add 4) fun (Index1 : Int) =>
      Ld (.int .i64) h_2 (m1.add 5) fun (LogTerm : Int) =>
      Ld .sl h_2 (m1.add 8) fun (Entries : Sl) =>
      C_log_Log_Put log Index1 LogTerm Entries h_2 fun (r : Int) (r1 : Int) h_4 =>
      (bif r1 != 0 then
        Ld (.int .i64) h_4 (m1.add 1) fun (From2 : Int) =>
        Ld (.int .i64) h_4 (m1.add 4) fun (Index2 : Int) =>
        C_raft_Node_Last x h_4 fun (r2 : Int) h_5 =>
        (Ld (.int .i64) h_5 (m1.add 1) fun (From3 : Int) => (.int .i64 From3 : Value) = .int .i64 From2) ∧
        (Ld (.int .i64) h_5 (m1.add 4) fun (Index3 : Int) => (.int .i64 Index3 : Value) = .int .i64 Index2) ∧
        C_raft_Node_told x From2 false (if 0 > (if (IntKind.i64.wrap (Index2 - 1)) < r2 then IntKind.i64.wrap (Index2 - 1) else r2) then 0 else if (IntKind.i64.wrap (Index2 - 1)) < r2 then IntKind.i64.wrap (Index2 - 1) else r2) h_5 fun h_6 =>
        R h_6
      else
        Join [] (fun _ h_7 =>
          Ld (.int .i64) h_7 (m1.add 4) fun (Index4 : Int) =>
          Ld .sl h_7 (m1.add 8) fun (Entries1 : Sl) =>
          Let (IntKind.i64.wrap (Index4 + (Entries1.n : Int)) : Int) fun last =>
          Nn x fun p6 =>
          Ld (.int .i64) h_7 (p6.add 10) fun (commit2 : Int) =>
          Ld (.int .i64) h_7 (m1.add 6) fun (Commit : Int) =>
          Nn x fun p7 =>
          St h_7 (p7.add 10) (.int .i64 (if (if last < Commit then last else Commit) > commit2 then if last < Commit then last else Commit else commit2)) fun h_8 =>
          Ld (.int .i64) h_8 (m1.add 1) fun (From4 : Int) =>
          C_raft_Node_told x From4 true last h_8 fun h_9 =>
          R h_9
          ) fun J =>
        (bif decide (r > 0) then
          C_raft_Node_dirty x r h_4 fun h_10 =>
          J  h_10
        else
          J  h_4
        )
      )
    )
  )
theorem E_raft_Node_append (x : Option Addr) (m : KL [.int .i64, .int .i64, .int .i64, .int .i64, .int .i64, .int .i64, .int .i64, .bool, .sl]) (h : Heap) (R : Heap → Prop) :
    VF Tryz.prog [(1021, [])] Tryz.f83 [.pointer x, .agg ⟨KL.vals [.int .i64, .int .i64, .int .i64, .int .i64, .int .i64, .int .i64, .int .i64, .bool, .sl] m⟩] h [] R = S_raft_Node_append x m h R := by kernel_rfl
theorem A_raft_Node_append {x : Option Addr} {m : KL [.int .i64, .int .i64, .int .i64, .int .i64, .int .i64, .int .i64, .int .i64, .bool, .sl]} {h : Heap} {R : Heap → Prop} (hs : S_raft_Node_append x m h R) : C_raft_Node_append x m h R :=
  use_ Tryz.func83 (by kernel_rfl) (E_raft_Node_append x m h R) hs

/-- (*raft.Node).hears -/
def S_raft_Node_hears (x : Option Addr) (m : KL [.int .i64, .int .i64, .int .i64, .int .i64, .int .i64, .int .i64, .int .i64, .bool, .sl]) (h : Heap) (R : Heap → Prop) : Prop :=
  Alloc h (.cells #[.int .i64 m.1, .int .i64 m.2.1, .int .i64 m.2.2.1, .int .i64 m.2.2.2.1, .int .i64 m.2.2.2.2.1, .int .i64 m.2.2.2.2.2.1, .int .i64 m.2.2.2.2.2.2.1, .bool m.2.2.2.2.2.2.2.1, .slice m.2.2.2.2.2.2.2.2.1.a m.2.2.2.2.2.2.2.2.1.n m.2.2.2.2.2.2.2.2.1.c] 59) fun m1 h_ =>
  Nn x fun p =>
  Ld (.int .i64) h_ (p.add 6) fun (role : Int) =>
  (bif role != 3 then
    R h_
  else
    Nn x fun p1 =>
    Ld (.int .u64) h_ (p1.add 13) fun (heard : Int) =>
    Ld (.int .i64) h_ (m1.add 1) fun (From : Int) =>
    Nneg (IntKind.u64.wrap From) (
    Nn x fun p2 =>
    St h_ (p2.add 13) (.int .u64 (bitV .or .u64 heard (shiftV .shl .u64 1 (IntKind.u64.wrap From)))) fun h_1 =>
    Ld (.int .i64) h_1 (m1.add 1) fun (From1 : Int) =>
    Nn x fun p3 =>
    IxA (p3.add 21) 7 From1 1 fun e =>
    C_raft_Node_Last x h_1 fun (r : Int) h_2 =>
    (Ld (.int .i64) h_2 (m1.add 1) fun (From2 : Int) => (.int .i64 From2 : Value) = .int .i64 From1) ∧
    Join [.one .bool] (fun _ (x30 : Bool) h_3 =>
      (bif x30 then
        Nn (some e) fun p4 =>
        Ld (.int .i64) h_3 p4 fun (x1 : Int) =>
        Ld (.int .i64) h_3 (m1.add 4) fun (Index : Int) =>
        Nn (some e) fun p5 =>
        St h_3 p5 (.int .i64 (if Index > x1 then Index else x1)) fun h_4 =>
        Ld (.int .i64) h_4 (m1.add 1) fun (From3 : Int) =>
        Nn (some e) fun p6 =>
        Ld (.int .i64) h_4 p6 fun (x2 : Int) =>
        Nn x fun p7 =>
        IxA (p7.add 14) 7 From3 1 fun e1 =>
        St h_4 e1 (.int .i64 (IntKind.i64.wrap (x2 + 1))) fun h_5 =>
        C_raft_Node_agree x h_5 fun h_6 =>
        Nn (some e) fun p8 =>
        Ld (.int .i64) h_6 p8 fun (x3 : Int) =>
        C_raft_Node_Last x h_6 fun (r1 : Int) h_7 =>
        (Ld (.int .i64) h_7 p8 fun (x4 : Int) => (.int .i64 x4 : Value) = .int .i64 x3) ∧
        (bif decide (x3 < r1) then
          Ld (.int .i64) h_7 (m1.add 1) fun (From4 : Int) =>
          C_raft_Node_to x From4 h_7 fun h_8 =>
          R h_8
        else
          R h_7
        )
      else
        Ld .bool h_3 (m1.add 7) fun (Yes : Bool) =>
        (bif !Yes then
          Ld (.int .i64) h_3 (m1.add 1) fun (From5 : Int) =>
          Ld (.int .i64) h_3 (m1.add 4) fun (Index1 : Int) =>
          Ld (.int .i64) h_3 (m1.add 1) fun (From6 : Int) =>
          Nn x fun p9 =>
          IxA (p9.add 14) 7 From6 1 fun e2 =>
          Ld (.int .i64) h_3 e2 fun (x5 : Int) =>
          Nn (some e) fun p10 =>
          Ld (.int .i64) h_3 p10 fun (x6 : Int) =>
          Nn x fun p11 =>
          IxA (p11.add 14) 7 From5 1 fun e3 =>
          St h_3 e3 (.int .i64 (if (IntKind.i64.wrap (x6 + 1)) > (if (IntKind.i64.wrap (x5 - 1)) < (IntKind.i64.wrap ((if r < (if 0 > Index1 then 0 else Index1) then r else if 0 > Index1 then 0 else Index1) + 1)) then IntKind.i64.wrap (x5 - 1) else IntKind.i64.wrap ((if r < (if 0 > Index1 then 0 else Index1) then r else if 0 > Index1 then 0 else Index1) + 1)) then IntKind.i64.wrap (x6 + 1) else if (IntKind.i64.wrap (x5 - 1)) < (IntKind.i64.wrap ((if r < (if 0 > Index1 then 0 else Index1) then r else if 0 > Index1 then 0 else Index1) + 1)) then IntKind.i64.wrap (x5 - 1) else IntKind.i64.wrap ((if r < (if 0 > Index1 then 0 else Index1) then r else if 0 > Index1 then 0 else Index1) + 1))) fun h_9 =>
          Ld (.int .i64) h_9 (m1.add 1) fun (From7 : Int) =>
          C_raft_Node_to x From7 h_9 fun h_10 =>
          R h_10
        else
          R h_3
        )
      )
      ) fun J =>
    Ld .bool h_2 (m1.add 7) fun (Yes1 : Bool) =>
    (bif Yes1 then
      Ld (.int .i64) h_2 (m1.add 4) fun (Index2 : Int) =>
      (bif decide (Index2 ≥ 0) then
        Ld (.int .i64) h_2 (m1.add 4) fun (Index3 : Int) =>
        J (decide (Index3 ≤ r)) h_2
      else
        J false h_2
      )
    else
      J false h_2
    )
    )
  )
theorem E_raft_Node_hears (x : Option Addr) (m : KL [.int .i64, .int .i64, .int .i64, .int .i64, .int .i64, .int .i64, .int .i64, .bool, .sl]) (h : Heap) (R : Heap → Prop) :
    VF Tryz.prog [(124, [(30, .one .bool)])] Tryz.f84 [.pointer x, .agg ⟨KL.vals [.int .i64, .int .i64, .int .i64, .int .i64, .int .i64, .int .i64, .int .i64, .bool, .sl] m⟩] h [] R = S_raft_Node_hears x m h R := by kernel_rfl
theorem A_raft_Node_hears {x : Option Addr} {m : KL [.int .i64, .int .i64, .int .i64, .int .i64, .int .i64, .int .i64, .int .i64, .bool, .sl]} {h : Heap} {R : Heap → Prop} (hs : S_raft_Node_hears x m h R) : C_raft_Node_hears x m h R :=
  use_ Tryz.func84 (by kernel_rfl) (E_raft_Node_hears x m h R) hs

/-- (*raft.Node).Save -/
def S_raft_Node_Save (x : Option Addr) (h : Heap) (R : KL [.bool, .int .i64, .int .i64, .int .i64, .sl] → Bool → Heap → Prop) : Prop :=
  Alloc h (.cells #[.bool false, .int .i64 0, .int .i64 0, .int .i64 0, .slice none 0 0] 123) fun p h_ =>
  Join [.one .bool] (fun _ (x20 : Bool) h_1 =>
    (bif x20 then
      St h_1 p (.bool false) fun h_2 =>
      St h_2 (p.add 1) (.int .i64 0) fun h_3 =>
      St h_3 (p.add 2) (.int .i64 0) fun h_4 =>
      St h_4 (p.add 3) (.int .i64 0) fun h_5 =>
      St h_5 (p.add 4) (.slice none 0 0) fun h_6 =>
      Ld .bool h_6 p fun (r_0 : Bool) =>
      Ld (.int .i64) h_6 (p.add 1) fun (r_1 : Int) =>
      Ld (.int .i64) h_6 (p.add 2) fun (r_2 : Int) =>
      Ld (.int .i64) h_6 (p.add 3) fun (r_3 : Int) =>
      Ld .sl h_6 (p.add 4) fun (r_4 : Sl) =>
      R (r_0, r_1, r_2, r_3, r_4, ()) false h_6
    else
      Nn x fun p1 =>
      Ld .bool h_1 (p1.add 29) fun (hard : Bool) =>
      Nn x fun p2 =>
      Ld (.int .i64) h_1 (p2.add 4) fun (term : Int) =>
      Nn x fun p3 =>
      Ld (.int .i64) h_1 (p3.add 5) fun (vote : Int) =>
      Alloc h_1 (.cells #[.bool false, .int .i64 0, .int .i64 0, .int .i64 0, .slice none 0 0] 123) fun s h_7 =>
      (Ld .bool h_7 (p1.add 29) fun (hard1 : Bool) => (.bool hard1 : Value) = .bool hard) ∧
      (Ld (.int .i64) h_7 (p2.add 4) fun (term1 : Int) => (.int .i64 term1 : Value) = .int .i64 term) ∧
      (Ld (.int .i64) h_7 (p3.add 5) fun (vote1 : Int) => (.int .i64 vote1 : Value) = .int .i64 vote) ∧
      St h_7 s (.bool hard) fun h_8 =>
      St h_8 (s.add 1) (.int .i64 term) fun h_9 =>
      St h_9 (s.add 2) (.int .i64 vote) fun h_10 =>
      St h_10 (s.add 3) (.int .i64 0) fun h_11 =>
      St h_11 (s.add 4) (.slice none 0 0) fun h_12 =>
      Nn x fun p4 =>
      Ld (.int .i64) h_12 (p4.add 30) fun (from_ : Int) =>
      Join [] (fun _ h_13 =>
        Nn x fun p5 =>
        St h_13 (p5.add 29) (.bool false) fun h_14 =>
        Nn x fun p6 =>
        St h_14 (p6.add 30) (.int .i64 0) fun h_15 =>
        Ld .bool h_15 s fun (x_Hard : Bool) =>
        Ld (.int .i64) h_15 (s.add 1) fun (x_Term : Int) =>
        Ld (.int .i64) h_15 (s.add 2) fun (x_Vote : Int) =>
        Ld (.int .i64) h_15 (s.add 3) fun (x_From : Int) =>
        Ld .sl h_15 (s.add 4) fun (x_Entries : Sl) =>
        St h_15 p (.bool x_Hard) fun h_16 =>
        St h_16 (p.add 1) (.int .i64 x_Term) fun h_17 =>
        St h_17 (p.add 2) (.int .i64 x_Vote) fun h_18 =>
        St h_18 (p.add 3) (.int .i64 x_From) fun h_19 =>
        St h_19 (p.add 4) (.slice x_Entries.a x_Entries.n x_Entries.c) fun h_20 =>
        Ld .bool h_20 p fun (r_01 : Bool) =>
        Ld (.int .i64) h_20 (p.add 1) fun (r_11 : Int) =>
        Ld (.int .i64) h_20 (p.add 2) fun (r_21 : Int) =>
        Ld (.int .i64) h_20 (p.add 3) fun (r_31 : Int) =>
        Ld .sl h_20 (p.add 4) fun (r_41 : Sl) =>
        R (r_01, r_11, r_21, r_31, r_41, ()) true h_20
        ) fun J1 =>
      (bif decide (from_ > 0) then
        Nn x fun p7 =>
        Ld (.int .i64) h_12 (p7.add 30) fun (from_1 : Int) =>
        Nn x fun p8 =>
        Ld .ptr h_12 (p8.add 11) fun (log : Option Addr) =>
        Nn x fun p9 =>
        Ld (.int .i64) h_12 (p9.add 30) fun (from_2 : Int) =>
        C_log_Log_From log from_2 1024 h_12 fun (r : Sl) h_21 =>
        (Ld (.int .i64) h_21 (p7.add 30) fun (from_3 : Int) => (.int .i64 from_3 : Value) = .int .i64 from_1) ∧
        St h_21 (s.add 3) (.int .i64 from_1) fun h_22 =>
        St h_22 (s.add 4) (.slice r.a r.n r.c) fun h_23 =>
        J1  h_23
      else
        J1  h_12
      )
    )
    ) fun J =>
  (bif x.isNone then
    J true h_
  else
    Nn x fun p10 =>
    Ld .bool h_ (p10.add 29) fun (hard2 : Bool) =>
    (bif !hard2 then
      Nn x fun p11 =>
      Ld (.int .i64) h_ (p11.add 30) fun (from_4 : Int) =>
      J (from_4 == 0) h_
    else
      J false h_
    )
  )
theorem E_raft_Node_Save (x : Option Addr) (h : Heap) (R : KL [.bool, .int .i64, .int .i64, .int .i64, .sl] → Bool → Heap → Prop) :
    VG Tryz.prog [(12, [(20, .one .bool)]), (61, [])] Tryz.f85 [.pointer x] h [.agg [.bool, .int .i64, .int .i64, .int .i64, .sl], .one .bool] R = S_raft_Node_Save x h R := by kernel_rfl
theorem A_raft_Node_Save {x : Option Addr} {h : Heap} {R : KL [.bool, .int .i64, .int .i64, .int .i64, .sl] → Bool → Heap → Prop} (hs : S_raft_Node_Save x h R) : C_raft_Node_Save x h R :=
  useG_SR Tryz.func85 (by kernel_rfl) (E_raft_Node_Save x h R) hs

/-- (*raft.Node).most -/
def S_raft_Node_most (x : Option Addr) (nodes : Int) (h : Heap) (R : Bool → Heap → Prop) : Prop :=
  Nn x fun p =>
  Ld (.int .i64) h (p.add 1) fun (n : Int) =>
  C_math_bits_OnesCount nodes h fun (r : Int) h_ =>
  (Ld (.int .i64) h_ (p.add 1) fun (n1 : Int) => (.int .i64 n1 : Value) = .int .i64 n) ∧
  R (decide ((IntKind.i64.wrap (2 * r)) > n)) h_
theorem E_raft_Node_most (x : Option Addr) (nodes : Int) (h : Heap) (R : Bool → Heap → Prop) :
    VF Tryz.prog [] Tryz.f93 [.pointer x, .int .u64 nodes] h [.one .bool] R = S_raft_Node_most x nodes h R := by kernel_rfl
theorem A_raft_Node_most {x : Option Addr} {nodes : Int} {h : Heap} {R : Bool → Heap → Prop} (hs : S_raft_Node_most x nodes h R) : C_raft_Node_most x nodes h R :=
  use_ Tryz.func93 (by kernel_rfl) (E_raft_Node_most x nodes h R) hs

/-- (*raft.Node).toAll -/
def S_raft_Node_toAll (x : Option Addr) (h : Heap) (R : Heap → Prop) : Prop :=
  Nn x fun p =>
  St h (p.add 8) (.int .i64 0) fun h_ =>
  Nn x fun p1 =>
  Ld (.int .i64) h_ (p1.add 1) fun (n : Int) =>
  Loop [.one (.int .i64)] (fun _ (x10 : Int) h_1 go =>
    (bif decide (x10 < n) then
      Nn x fun p2 =>
      Ld (.int .i64) h_1 p2 fun (id : Int) =>
      (bif x10 != id then
        C_raft_Node_to x x10 h_1 fun h_2 =>
        go (IntKind.i64.wrap (x10 + 1)) h_2
      else
        go (IntKind.i64.wrap (x10 + 1)) h_1
      )
    else
      R h_1
    )
    ) (0, ()) h_
theorem E_raft_Node_toAll (x : Option Addr) (h : Heap) (R : Heap → Prop) :
    VF Tryz.prog [(14, [(10, .one (.int .i64))])] Tryz.f94 [.pointer x] h [] R = S_raft_Node_toAll x h R := by kernel_rfl
theorem A_raft_Node_toAll {x : Option Addr} {h : Heap} {R : Heap → Prop} (hs : S_raft_Node_toAll x h R) : C_raft_Node_toAll x h R :=
  use_ Tryz.func94 (by kernel_rfl) (E_raft_Node_toAll x h R) hs

/-- (*raft.Node).stands -/
def S_raft_Node_stands (x : Option Addr) (h : Heap) (R : Heap → Prop) : Prop :=
  Nn x fun p =>
  Ld (.int .i64) h p fun (id : Int) =>
  Nneg (IntKind.u64.wrap id) (
  Nn x fun p1 =>
  St h (p1.add 8) (.int .i64 0) fun h_ =>
  Nn x fun p2 =>
  St h_ (p2.add 6) (.int .i64 2) fun h_1 =>
  Nn x fun p3 =>
  St h_1 (p3.add 12) (.int .u64 (shiftV .shl .u64 1 (IntKind.u64.wrap id))) fun h_2 =>
  Nn x fun p4 =>
  Ld (.int .i64) h_2 (p4.add 4) fun (term : Int) =>
  Nn x fun p5 =>
  Ld (.int .i64) h_2 p5 fun (id1 : Int) =>
  Nn x fun p6 =>
  St h_2 (p6.add 4) (.int .i64 (IntKind.i64.wrap (term + 1))) fun h_3 =>
  Nn x fun p7 =>
  St h_3 (p7.add 5) (.int .i64 id1) fun h_4 =>
  Nn x fun p8 =>
  St h_4 (p8.add 29) (.bool true) fun h_5 =>
  Nn x fun p9 =>
  Ld (.int .u64) h_5 (p9.add 12) fun (votes : Int) =>
  C_raft_Node_most x votes h_5 fun (r : Bool) h_6 =>
  (bif r then
    C_raft_Node_leads x h_6 fun h_7 =>
    R h_7
  else
    Nn x fun p10 =>
    Ld .ptr h_6 (p10.add 11) fun (log : Option Addr) =>
    C_log_Log_Last log h_6 fun (r1 : Int) (r2 : Int) h_8 =>
    Nn x fun p11 =>
    Ld (.int .i64) h_8 (p11.add 4) fun (term1 : Int) =>
    C_raft_Node_all x (3, 0, 0, term1, r1, r2, 0, false, ⟨none, 0, 0⟩, ()) h_8 fun h_9 =>
    R h_9
  )
  )
theorem E_raft_Node_stands (x : Option Addr) (h : Heap) (R : Heap → Prop) :
    VF Tryz.prog [] Tryz.f95 [.pointer x] h [] R = S_raft_Node_stands x h R := by kernel_rfl
theorem A_raft_Node_stands {x : Option Addr} {h : Heap} {R : Heap → Prop} (hs : S_raft_Node_stands x h R) : C_raft_Node_stands x h R :=
  use_ Tryz.func95 (by kernel_rfl) (E_raft_Node_stands x h R) hs

/-- (*raft.Node).all -/
def S_raft_Node_all (x : Option Addr) (m : KL [.int .i64, .int .i64, .int .i64, .int .i64, .int .i64, .int .i64, .int .i64, .bool, .sl]) (h : Heap) (R : Heap → Prop) : Prop :=
  Alloc h (.cells #[.int .i64 m.1, .int .i64 m.2.1, .int .i64 m.2.2.1, .int .i64 m.2.2.2.1, .int .i64 m.2.2.2.2.1, .int .i64 m.2.2.2.2.2.1, .int .i64 m.2.2.2.2.2.2.1, .bool m.2.2.2.2.2.2.2.1, .slice m.2.2.2.2.2.2.2.2.1.a m.2.2.2.2.2.2.2.2.1.n m.2.2.2.2.2.2.2.2.1.c] 59) fun m1 h_ =>
  Nn x fun p =>
  Ld (.int .i64) h_ (p.add 1) fun (n : Int) =>
  Loop [.one (.int .i64)] (fun _ (x9 : Int) h_1 go =>
    (bif decide (x9 < n) then
      Nn x fun p1 =>
      Ld (.int .i64) h_1 p1 fun (id : Int) =>
      (bif x9 != id then
        Ld (.int .i64) h_1 m1 fun (x_Kind : Int) =>
        Ld (.int .i64) h_1 (m1.add 1) fun (x_From : Int) =>
        Ld (.int .i64) h_1 (m1.add 2) fun (x_To : Int) =>
        Ld (.int .i64) h_1 (m1.add 3) fun (x_Term : Int) =>
        Ld (.int .i64) h_1 (m1.add 4) fun (x_Index : Int) =>
        Ld (.int .i64) h_1 (m1.add 5) fun (x_LogTerm : Int) =>
        Ld (.int .i64) h_1 (m1.add 6) fun (x_Commit : Int) =>
        Ld .bool h_1 (m1.add 7) fun (x_Yes : Bool) =>
        Ld .sl h_1 (m1.add 8) fun (x_Entries : Sl) =>
        C_raft_Node_send x x9 (x_Kind, x_From, x_To, x_Term, x_Index, x_LogTerm, x_Commit, x_Yes, x_Entries, ()) h_1 fun h_2 =>
        go (IntKind.i64.wrap (x9 + 1)) h_2
      else
        go (IntKind.i64.wrap (x9 + 1)) h_1
      )
    else
      R h_1
    )
    ) (0, ()) h_
theorem E_raft_Node_all (x : Option Addr) (m : KL [.int .i64, .int .i64, .int .i64, .int .i64, .int .i64, .int .i64, .int .i64, .bool, .sl]) (h : Heap) (R : Heap → Prop) :
    VF Tryz.prog [(14, [(9, .one (.int .i64))])] Tryz.f96 [.pointer x, .agg ⟨KL.vals [.int .i64, .int .i64, .int .i64, .int .i64, .int .i64, .int .i64, .int .i64, .bool, .sl] m⟩] h [] R = S_raft_Node_all x m h R := by kernel_rfl
theorem A_raft_Node_all {x : Option Addr} {m : KL [.int .i64, .int .i64, .int .i64, .int .i64, .int .i64, .int .i64, .int .i64, .bool, .sl]} {h : Heap} {R : Heap → Prop} (hs : S_raft_Node_all x m h R) : C_raft_Node_all x m h R :=
  use_ Tryz.func96 (by kernel_rfl) (E_raft_Node_all x m h R) hs

/-- (*raft.Node).dirty -/
def S_raft_Node_dirty (x : Option Addr) (index : Int) (h : Heap) (R : Heap → Prop) : Prop :=
  Nn x fun p =>
  Ld (.int .i64) h (p.add 30) fun (from_ : Int) =>
  (bif from_ == 0 then
    Nn x fun p1 =>
    St h (p1.add 30) (.int .i64 index) fun h_ =>
    R h_
  else
    Nn x fun p2 =>
    Ld (.int .i64) h (p2.add 30) fun (from_1 : Int) =>
    (bif decide (index < from_1) then
      Nn x fun p3 =>
      St h (p3.add 30) (.int .i64 index) fun h_1 =>
      R h_1
    else
      R h
    )
  )
theorem E_raft_Node_dirty (x : Option Addr) (index : Int) (h : Heap) (R : Heap → Prop) :
    VF Tryz.prog [] Tryz.f98 [.pointer x, .int .i64 index] h [] R = S_raft_Node_dirty x index h R := by kernel_rfl
theorem A_raft_Node_dirty {x : Option Addr} {index : Int} {h : Heap} {R : Heap → Prop} (hs : S_raft_Node_dirty x index h R) : C_raft_Node_dirty x index h R :=
  use_ Tryz.func98 (by kernel_rfl) (E_raft_Node_dirty x index h R) hs

/-- (*raft.Node).agree -/
def S_raft_Node_agree (x : Option Addr) (h : Heap) (R : Heap → Prop) : Prop :=
  Nn x fun p =>
  Ld .ptr h (p.add 11) fun (log : Option Addr) =>
  C_log_Log_Last log h fun (r : Int) (r1 : Int) h_ =>
  Loop [.one (.int .i64)] (fun _ (index : Int) h_1 go =>
    Nn x fun p1 =>
    Ld (.int .i64) h_1 (p1.add 10) fun (commit : Int) =>
    (bif decide (index > commit) then
      Nn x fun p2 =>
      Ld .ptr h_1 (p2.add 11) fun (log1 : Option Addr) =>
      C_log_Log_Term log1 index h_1 fun (r2 : Int) (r3 : Bool) h_2 =>
      Nn x fun p3 =>
      Ld (.int .i64) h_2 (p3.add 4) fun (term : Int) =>
      (bif r2 != term then
        R h_2
      else
        Nn x fun p4 =>
        Ld (.int .i64) h_2 p4 fun (id : Int) =>
        Nneg (IntKind.u64.wrap id) (
        Let (shiftV .shl .u64 1 (IntKind.u64.wrap id) : Int) fun have_ =>
        Nn x fun p5 =>
        Ld (.int .i64) h_2 (p5.add 1) fun (n : Int) =>
        Loop [.one (.int .u64), .one (.int .i64)] (fun _ (have_1 : Int) (x51 : Int) h_3 go1 =>
          (bif decide (x51 < n) then
            Nn x fun p6 =>
            Ld (.int .i64) h_3 p6 fun (id1 : Int) =>
            (bif x51 != id1 then
              Nn x fun p7 =>
              IxA (p7.add 21) 7 x51 1 fun e =>
              Ld (.int .i64) h_3 e fun (x1 : Int) =>
              (bif decide (x1 ≥ index) then
                Nneg (IntKind.u64.wrap x51) (
                Let (bitV .or .u64 have_1 (shiftV .shl .u64 1 (IntKind.u64.wrap x51)) : Int) fun have_2 =>
                go1 have_2 (IntKind.i64.wrap (x51 + 1)) h_3
                )
              else
                go1 have_1 (IntKind.i64.wrap (x51 + 1)) h_3
              )
            else
              go1 have_1 (IntKind.i64.wrap (x51 + 1)) h_3
            )
          else
            C_raft_Node_most x have_1 h_3 fun (r4 : Bool) h_4 =>
            (bif r4 then
              Nn x fun p8 =>
              St h_4 (p8.add 10) (.int .i64 index) fun h_5 =>
              C_raft_Node_toAll x h_5 fun h_6 =>
              R h_6
            else
              Let (IntKind.i64.wrap (index - 1) : Int) fun index1 =>
              go index1 h_4
            )
          )
          ) (have_, 0, ()) h_2
        )
      )
    else
      R h_1
    )
    ) (r, ()) h_
theorem E_raft_Node_agree (x : Option Addr) (h : Heap) (R : Heap → Prop) :
    VF Tryz.prog [(14, [(4, .one (.int .i64))]), (7322, [(7, .one (.int .u64)), (51, .one (.int .i64))])] Tryz.f99 [.pointer x] h [] R = S_raft_Node_agree x h R := by kernel_rfl
theorem A_raft_Node_agree {x : Option Addr} {h : Heap} {R : Heap → Prop} (hs : S_raft_Node_agree x h R) : C_raft_Node_agree x h R :=
  use_ Tryz.func99 (by kernel_rfl) (E_raft_Node_agree x h R) hs

/-- (*raft.Node).counts$1 -/
def S_raft_Node_counts_1 (e : KL [.int .i64, .str]) (fv : Addr) (h : Heap) (R : Bool → Heap → Prop) : Prop :=
  Alloc h (.cells #[.int .i64 e.1, .string e.2.1] 40) fun e1 h_ =>
  Ld (.int .i64) h_ e1 fun (Term : Int) =>
  Ld (.int .i64) h_ (fv.add 3) fun (Term1 : Int) =>
  (bif decide (Term > Term1) then
    R true h_
  else
    Ld (.int .i64) h_ e1 fun (Term2 : Int) =>
    (bif decide (Term2 < 1) then
      R true h_
    else
      Ld .str h_ (e1.add 1) fun (Data : ByteArray) =>
      R (decide ((Data.size : Int) > 512)) h_
    )
  )
theorem E_raft_Node_counts_1 (e : KL [.int .i64, .str]) (fv : Addr) (h : Heap) (R : Bool → Heap → Prop) :
    VF Tryz.prog [] Tryz.f100 [.agg ⟨KL.vals [.int .i64, .str] e⟩, .pointer (some fv)] h [.one .bool] R = S_raft_Node_counts_1 e fv h R := by kernel_rfl
theorem A_raft_Node_counts_1 {e : KL [.int .i64, .str]} {fv : Addr} {h : Heap} {R : Bool → Heap → Prop} (hs : S_raft_Node_counts_1 e fv h R) : C_raft_Node_counts_1 e (some fv) h R :=
  use_ Tryz.func100 (by kernel_rfl) (E_raft_Node_counts_1 e fv h R) hs

/-- slices.ContainsFunc[[]api.Entry,api.Entry] -/
def S_slices_ContainsFunc_api_Entry_api_Entry (s : Sl) (cap : Option Addr) (h : Heap) (R : Bool → Heap → Prop) : Prop :=
  C_slices_IndexFunc_api_Entry_api_Entry s (.func (.func 100) #[] #[.pointer cap]) h fun (r : Int) h_ =>
  R (decide (r ≥ 0)) h_
theorem E_slices_ContainsFunc_api_Entry_api_Entry (s : Sl) (cap : Option Addr) (h : Heap) (R : Bool → Heap → Prop) :
    VF Tryz.prog [] Tryz.f101 [.slice s.a s.n s.c, .func (.func 100) #[] #[.pointer cap]] h [.one .bool] R = S_slices_ContainsFunc_api_Entry_api_Entry s cap h R := by kernel_rfl
theorem A_slices_ContainsFunc_api_Entry_api_Entry {s : Sl} {cap : Option Addr} {h : Heap} {R : Bool → Heap → Prop} (hs : S_slices_ContainsFunc_api_Entry_api_Entry s cap h R) : C_slices_ContainsFunc_api_Entry_api_Entry s (.func (.func 100) #[] #[.pointer cap]) h R :=
  use_ Tryz.func101 (by kernel_rfl) (E_slices_ContainsFunc_api_Entry_api_Entry s cap h R) hs

/-- (*raft.Node).send -/
def S_raft_Node_send (x : Option Addr) (to : Int) (m : KL [.int .i64, .int .i64, .int .i64, .int .i64, .int .i64, .int .i64, .int .i64, .bool, .sl]) (h : Heap) (R : Heap → Prop) : Prop :=
  Alloc h (.cells #[.int .i64 m.1, .int .i64 m.2.1, .int .i64 m.2.2.1, .int .i64 m.2.2.2.1, .int .i64 m.2.2.2.2.1, .int .i64 m.2.2.2.2.2.1, .int .i64 m.2.2.2.2.2.2.1, .bool m.2.2.2.2.2.2.2.1, .slice m.2.2.2.2.2.2.2.2.1.a m.2.2.2.2.2.2.2.2.1.n m.2.2.2.2.2.2.2.2.1.c] 59) fun m1 h_ =>
  Nn x fun p =>
  Ld (.int .i64) h_ p fun (id : Int) =>
  St h_ (m1.add 1) (.int .i64 id) fun h_1 =>
  St h_1 (m1.add 2) (.int .i64 to) fun h_2 =>
  Nn x fun p1 =>
  Ld .sl h_2 (p1.add 28) fun (out : Sl) =>
  Ld (.int .i64) h_2 m1 fun (x_Kind : Int) =>
  Ld (.int .i64) h_2 (m1.add 1) fun (x_From : Int) =>
  Ld (.int .i64) h_2 (m1.add 2) fun (x_To : Int) =>
  Ld (.int .i64) h_2 (m1.add 3) fun (x_Term : Int) =>
  Ld (.int .i64) h_2 (m1.add 4) fun (x_Index : Int) =>
  Ld (.int .i64) h_2 (m1.add 5) fun (x_LogTerm : Int) =>
  Ld (.int .i64) h_2 (m1.add 6) fun (x_Commit : Int) =>
  Ld .bool h_2 (m1.add 7) fun (x_Yes : Bool) =>
  Ld .sl h_2 (m1.add 8) fun (x_Entries : Sl) =>
  Alloc h_2 (.cells #[.int .i64 x_Kind, .int .i64 x_From, .int .i64 x_To, .int .i64 x_Term, .int .i64 x_Index, .int .i64 x_LogTerm, .int .i64 x_Commit, .bool x_Yes, .slice x_Entries.a x_Entries.n x_Entries.c] 59) fun b h_3 =>
  (Ld .sl h_3 (p1.add 28) fun (out1 : Sl) => (.slice out1.a out1.n out1.c : Value) = .slice out.a out.n out.c) ∧
  App Tryz.prog 54 54 out ⟨some b, 1, 1⟩ h_3 fun s h_4 =>
  Nn x fun p2 =>
  St h_4 (p2.add 28) (.slice s.a s.n s.c) fun h_5 =>
  R h_5
theorem E_raft_Node_send (x : Option Addr) (to : Int) (m : KL [.int .i64, .int .i64, .int .i64, .int .i64, .int .i64, .int .i64, .int .i64, .bool, .sl]) (h : Heap) (R : Heap → Prop) :
    VF Tryz.prog [] Tryz.f103 [.pointer x, .int .i64 to, .agg ⟨KL.vals [.int .i64, .int .i64, .int .i64, .int .i64, .int .i64, .int .i64, .int .i64, .bool, .sl] m⟩] h [] R = S_raft_Node_send x to m h R := by kernel_rfl
theorem A_raft_Node_send {x : Option Addr} {to : Int} {m : KL [.int .i64, .int .i64, .int .i64, .int .i64, .int .i64, .int .i64, .int .i64, .bool, .sl]} {h : Heap} {R : Heap → Prop} (hs : S_raft_Node_send x to m h R) : C_raft_Node_send x to m h R :=
  use_ Tryz.func103 (by kernel_rfl) (E_raft_Node_send x to m h R) hs

/-- (*raft.Node).leads -/
def S_raft_Node_leads (x : Option Addr) (h : Heap) (R : Heap → Prop) : Prop :=
  Nn x fun p =>
  Ld (.int .i64) h p fun (id : Int) =>
  Nn x fun p1 =>
  St h (p1.add 8) (.int .i64 0) fun h_ =>
  Nn x fun p2 =>
  St h_ (p2.add 9) (.int .i64 0) fun h_1 =>
  Nn x fun p3 =>
  St h_1 (p3.add 6) (.int .i64 3) fun h_2 =>
  Nn x fun p4 =>
  St h_2 (p4.add 7) (.int .i64 id) fun h_3 =>
  Nn x fun p5 =>
  St h_3 (p5.add 13) (.int .u64 0) fun h_4 =>
  Nn x fun p6 =>
  Ld .ptr h_4 (p6.add 11) fun (log : Option Addr) =>
  C_log_Log_Last log h_4 fun (r : Int) (r1 : Int) h_5 =>
  Nn x fun p7 =>
  Ld (.int .i64) h_5 (p7.add 1) fun (n : Int) =>
  Loop [.one (.int .i64)] (fun _ (x36 : Int) h_6 go =>
    (bif decide (x36 < n) then
      Nn x fun p8 =>
      IxA (p8.add 14) 7 x36 1 fun e =>
      Nn x fun p9 =>
      St h_6 e (.int .i64 (IntKind.i64.wrap (r + 1))) fun h_7 =>
      IxA (p9.add 21) 7 x36 1 fun e1 =>
      St h_7 e1 (.int .i64 0) fun h_8 =>
      go (IntKind.i64.wrap (x36 + 1)) h_8
    else
      C_raft_Node_add x (⟨#[]⟩ : ByteArray) h_6 fun (r2 : Int) h_9 =>
      (bif r2 != 0 then
        Nn x fun p10 =>
        Ld (.int .i64) h_9 (p10.add 4) fun (term : Int) =>
        C_raft_Node_follow x term (-1) h_9 fun h_10 =>
        R h_10
      else
        R h_9
      )
    )
    ) (0, ()) h_5
theorem E_raft_Node_leads (x : Option Addr) (h : Heap) (R : Heap → Prop) :
    VF Tryz.prog [(58, [(36, .one (.int .i64))])] Tryz.f104 [.pointer x] h [] R = S_raft_Node_leads x h R := by kernel_rfl
theorem A_raft_Node_leads {x : Option Addr} {h : Heap} {R : Heap → Prop} (hs : S_raft_Node_leads x h R) : C_raft_Node_leads x h R :=
  use_ Tryz.func104 (by kernel_rfl) (E_raft_Node_leads x h R) hs

/-- (*raft.Node).to -/
def S_raft_Node_to (x : Option Addr) (to : Int) (h : Heap) (R : Heap → Prop) : Prop :=
  Nn x fun p =>
  IxA (p.add 14) 7 to 1 fun e =>
  Ld (.int .i64) h e fun (x1 : Int) =>
  Let (IntKind.i64.wrap (x1 - 1) : Int) fun ahead =>
  Nn x fun p1 =>
  Ld .ptr h (p1.add 11) fun (log : Option Addr) =>
  C_log_Log_Term log ahead h fun (r : Int) (r1 : Bool) h_ =>
  Nn x fun p2 =>
  Ld (.int .i64) h_ (p2.add 4) fun (term : Int) =>
  Nn x fun p3 =>
  Ld (.int .i64) h_ (p3.add 10) fun (commit : Int) =>
  Nn x fun p4 =>
  Ld .ptr h_ (p4.add 11) fun (log1 : Option Addr) =>
  C_log_Log_From log1 (IntKind.i64.wrap (ahead + 1)) 8 h_ fun (r2 : Sl) h_1 =>
  (Ld (.int .i64) h_1 (p2.add 4) fun (term1 : Int) => (.int .i64 term1 : Value) = .int .i64 term) ∧
  (Ld (.int .i64) h_1 (p3.add 10) fun (commit1 : Int) => (.int .i64 commit1 : Value) = .int .i64 commit) ∧
  C_raft_Node_send x to (5, 0, 0, term, ahead, r, commit, false, r2, ()) h_1 fun h_2 =>
  R h_2
theorem E_raft_Node_to (x : Option Addr) (to : Int) (h : Heap) (R : Heap → Prop) :
    VF Tryz.prog [] Tryz.f106 [.pointer x, .int .i64 to] h [] R = S_raft_Node_to x to h R := by kernel_rfl
theorem A_raft_Node_to {x : Option Addr} {to : Int} {h : Heap} {R : Heap → Prop} (hs : S_raft_Node_to x to h R) : C_raft_Node_to x to h R :=
  use_ Tryz.func106 (by kernel_rfl) (E_raft_Node_to x to h R) hs

/-- math.bits.OnesCount -/
def S_math_bits_OnesCount (x : Int) (h : Heap) (R : Int → Heap → Prop) : Prop :=
  C_math_bits_OnesCount64 x h fun (r : Int) h_ =>
  R r h_
theorem E_math_bits_OnesCount (x : Int) (h : Heap) (R : Int → Heap → Prop) :
    VF Tryz.prog [] Tryz.f112 [.int .u64 x] h [.one (.int .i64)] R = S_math_bits_OnesCount x h R := by kernel_rfl
theorem A_math_bits_OnesCount {x : Int} {h : Heap} {R : Int → Heap → Prop} (hs : S_math_bits_OnesCount x h R) : C_math_bits_OnesCount x h R :=
  use_ Tryz.func112 (by kernel_rfl) (E_math_bits_OnesCount x h R) hs

/-- slices.IndexFunc[[]api.Entry,api.Entry] -/
def S_slices_IndexFunc_api_Entry_api_Entry (s : Sl) (cap : Option Addr) (h : Heap) (R : Int → Heap → Prop) : Prop :=
  Loop [.one (.int .i64)] (fun _ (x8 : Int) h_ go =>
    (bif decide (x8 < (s.n : Int)) then
      Ix s x8 2 fun e =>
      Ld (.int .i64) h_ e fun (x_Term : Int) =>
      Ld .str h_ (e.add 1) fun (x_Data : ByteArray) =>
      C_raft_Node_counts_1 (x_Term, x_Data, ()) cap h_ fun (r : Bool) h_1 =>
      (bif r then
        R x8 h_1
      else
        go (IntKind.i64.wrap (x8 + 1)) h_1
      )
    else
      R (-1) h_
    )
    ) (0, ()) h
theorem E_slices_IndexFunc_api_Entry_api_Entry (s : Sl) (cap : Option Addr) (h : Heap) (R : Int → Heap → Prop) :
    VF Tryz.prog [(26, [(8, .one (.int .i64))])] Tryz.f114 [.slice s.a s.n s.c, .func (.func 100) #[] #[.pointer cap]] h [.one (.int .i64)] R = S_slices_IndexFunc_api_Entry_api_Entry s cap h R := by kernel_rfl
theorem A_slices_IndexFunc_api_Entry_api_Entry {s : Sl} {cap : Option Addr} {h : Heap} {R : Int → Heap → Prop} (hs : S_slices_IndexFunc_api_Entry_api_Entry s cap h R) : C_slices_IndexFunc_api_Entry_api_Entry s (.func (.func 100) #[] #[.pointer cap]) h R :=
  use_ Tryz.func114 (by kernel_rfl) (E_slices_IndexFunc_api_Entry_api_Entry s cap h R) hs

/-- math.bits.OnesCount64 -/
def S_math_bits_OnesCount64 (x : Int) (h : Heap) (R : Int → Heap → Prop) : Prop :=
  Nneg 1 (
  Let (IntKind.u64.wrap ((bitV .and .u64 (shiftV .shr .u64 x 1) 6148914691236517205) + (bitV .and .u64 x 6148914691236517205)) : Int) fun x1 =>
  Nneg 2 (
  Let (IntKind.u64.wrap ((bitV .and .u64 (shiftV .shr .u64 x1 2) 3689348814741910323) + (bitV .and .u64 x1 3689348814741910323)) : Int) fun x2 =>
  Nneg 4 (
  Let (bitV .and .u64 (IntKind.u64.wrap ((shiftV .shr .u64 x2 4) + x2)) 1085102592571150095 : Int) fun x3 =>
  Nneg 8 (
  Let (IntKind.u64.wrap (x3 + (shiftV .shr .u64 x3 8)) : Int) fun x4 =>
  Nneg 16 (
  Let (IntKind.u64.wrap (x4 + (shiftV .shr .u64 x4 16)) : Int) fun x5 =>
  Nneg 32 (
  Let (IntKind.u64.wrap (x5 + (shiftV .shr .u64 x5 32)) : Int) fun x6 =>
  R (bitV .and .i64 (IntKind.i64.wrap x6) 127) h
  )
  )
  )
  )
  )
  )
theorem E_math_bits_OnesCount64 (x : Int) (h : Heap) (R : Int → Heap → Prop) :
    VF Tryz.prog [] Tryz.f123 [.int .u64 x] h [.one (.int .i64)] R = S_math_bits_OnesCount64 x h R := by kernel_rfl
theorem A_math_bits_OnesCount64 {x : Int} {h : Heap} {R : Int → Heap → Prop} (hs : S_math_bits_OnesCount64 x h R) : C_math_bits_OnesCount64 x h R :=
  use_ Tryz.func123 (by kernel_rfl) (E_math_bits_OnesCount64 x h R) hs

end Go.Proofs.YtniojdaddolnfaaGreat

/-
  Layer 7's log, and bits, as layer 8 (raft) needs them.
-/
namespace Go.Proofs.YtniojdaddolnfaaGreat
open Go

theorem brNot {b : Bool} {A B : Prop} (h1 : b = false → A) (h2 : b = true → B) : cond (!b) A B := by
  cases b
  · exact h1 rfl
  · exact h2 rfl
def eRE : Enc RE 2 := ⟨fun a => [.int .i64 a.term, .string a.data], fun _ => rfl, by decide, fun x u hu => by
  simp only [List.mem_cons, List.not_mem_nil, or_false] at hu
  rcases hu with rfl | rfl <;> rfl⟩
theorem TRE : ElemT Tryz.prog 37 40 2 24 := .of (by kernel_rfl)
/-! ## Bits -/
theorem pow_le128 {n : Nat} (h : n ≤ 7) : 2 ^ n ≤ 128 := Nat.pow_le_pow_right (n := 2) (by decide) h
theorem bit_one {p : Int} (h0 : 0 ≤ p) (hp : p < 7) : shiftV .shl .u64 1 (IntKind.u64.wrap p) = ((2 ^ p.toNat : Nat) : Int) := by
  have h2 := pow7 h0 hp
  rw [wu64 (by omega) (by omega)]
  obtain ⟨k, rfl⟩ : ∃ k : Nat, p = k := ⟨p.toNat, by omega⟩
  have := shl_eq .u64 1 k (by show k ≤ 64; omega)
  rw [this, Int.toNat_natCast]
  rw [Int.toNat_natCast] at h2
  rw [show (1 * 2 ^ k : Int) = ((2 ^ k : Nat) : Int) by simp, wu64 (Int.natCast_nonneg _) (Int.lt_of_lt_of_le (Int.ofNat_lt.2 h2) (by decide))]
theorem bit_orT {g : Nat} {p : Int} (hg : g < 128) (h0 : 0 ≤ p) (hp : p < 7) : bitV .or .u64 (g : Int) (shiftV .shl .u64 1 (IntKind.u64.wrap p)) = ((g ||| 2 ^ p.toNat : Nat) : Int) := by
  have h2 := pow7 h0 hp
  have hor := or7 hg h0 hp
  rw [bit_one h0 hp, or_u64' (by omega) (by omega)]
theorem popT_all : ∀ x : Fin 128, ∀ (h : Heap) (R : Int → Heap → Prop), R (popT 7 x.val : Nat) h → S_math_bits_OnesCount64 ((x.val : Nat) : Int) h R := by
  intro x h R hR
  have key : ∀ x : Fin 128,
    let x1 := IntKind.u64.wrap ((bitV .and .u64 (shiftV .shr .u64 ((x.val : Nat) : Int) 1) 6148914691236517205) + (bitV .and .u64 ((x.val : Nat) : Int) 6148914691236517205))
    let x2 := IntKind.u64.wrap ((bitV .and .u64 (shiftV .shr .u64 x1 2) 3689348814741910323) + (bitV .and .u64 x1 3689348814741910323))
    let x3 := bitV .and .u64 (IntKind.u64.wrap ((shiftV .shr .u64 x2 4) + x2)) 1085102592571150095
    let x4 := IntKind.u64.wrap (x3 + (shiftV .shr .u64 x3 8))
    let x5 := IntKind.u64.wrap (x4 + (shiftV .shr .u64 x4 16))
    let x6 := IntKind.u64.wrap (x5 + (shiftV .shr .u64 x5 32))
    bitV .and .i64 (IntKind.i64.wrap x6) 127 = ((popT 7 x.val : Nat) : Int) := by decide +kernel
  have k := key x
  unfold S_math_bits_OnesCount64
  refine nneg (by decide) (let_ (nneg (by decide) (let_ (nneg (by decide) (let_ (nneg (by decide) (let_ (nneg (by decide) (let_ (nneg (by decide) (let_ ?_)))))))))))
  simp only at k
  rw [k]
  exact hR
theorem popT_ok {x : Nat} (hx : x < 128) {h : Heap} {R : Int → Heap → Prop} (hR : R (popT 7 x : Nat) h) : C_math_bits_OnesCount (x : Int) h R := by
  refine A_math_bits_OnesCount ?_
  unfold S_math_bits_OnesCount
  exact A_math_bits_OnesCount64 (popT_all ⟨x, hx⟩ h R hR)
theorem popT_le : ∀ x : Fin 128, popT 7 x.val ≤ 7 := by decide +kernel
/-- How many bits are set. -/
def bitsN (v : Nat) (n : Nat) : Nat := ((List.range n).filter fun (t : Nat) => v.testBit t).length
theorem popT_bits : ∀ x : Fin 128, popT 7 x.val = bitsN x.val 7 := by decide +kernel
/-! ## The log -/
section
variable {h0 h : Heap} {L G : List Res} {lg : Nat} {t : TypeId} {sl : Sl} {es : List RE}
theorem lastT_get {es : List RE} (h : 0 < es.length) : lastT es = es[es.length - 1].term := by
  unfold lastT
  rw [List.getLast?_eq_getElem?, List.getElem?_eq_getElem (by omega)]; rfl
theorem log_Last_ok {R : Int → Int → Heap → Prop} (H : At h0 h L) (i : Nat) (hi : L[i]? = some (.blk lg t [.slice sl.a sl.n sl.c])) (j : Nat) (hj : L[j]? = some (.own sl 2 (eRE.fl es))) (hl : es.length ≤ 100000) (hR : R (es.length : Int) (lastT es) h) : C_log_Log_Last (some ⟨lg, 0, none⟩) h R := by
  refine A_log_Log_Last ?_
  unfold S_log_Log_Last
  have hn := H.n j hj
  refine join1 (s1 := .one .bool) (fun (q : Bool) h1 => (q = true ↔ es.length = 0) ∧ h1 = h) (fun _ (q : Bool) h1 hJ => ?_) ?_
  · obtain ⟨hq, rfl⟩ := hJ
    refine brB (fun hqt => ?_) fun hqf => ?_
    · have h0 := hq.1 hqt
      have : es = [] := List.length_eq_zero_iff.1 h0
      subst this
      exact hR
    · have hp : 0 < es.length := Nat.pos_of_ne_zero fun h0 => by rw [hq.2 h0] at hqf; cases hqf
      refine nn (ldAt0 H i hi sl rfl (let_ (nn (ldAt0 H i hi sl rfl ?_))))
      rw [w64 (by omega) (by omega)]
      refine ixAt H j hj (es.length - 1) (by omega) (by omega) fun e he => ?_
      refine ldEl0 (E := eRE) H j hj he (by omega) (lastT es) (by rw [lastT_get hp]; rfl) ?_
      rw [hn]; exact hR
  · refine brF (nn (ldAt0 H i hi sl rfl ⟨?_, rfl⟩))
    rw [beq_iff_eq]; omega
theorem log_Term_ok {index : Int} {R : Int → Bool → Heap → Prop} (H : At h0 h L) (i : Nat) (hi : L[i]? = some (.blk lg t [.slice sl.a sl.n sl.c])) (j : Nat) (hj : L[j]? = some (.own sl 2 (eRE.fl es))) (hl : es.length ≤ 100000) (hR : R (termAt es index).1 (termAt es index).2 h) : C_log_Log_Term (some ⟨lg, 0, none⟩) index h R := by
  refine A_log_Log_Term ?_
  unfold S_log_Log_Term
  have hn := H.n j hj
  unfold termAt at hR
  refine join0 (fun h1 => h1 = h ∧ 0 < index ∧ index ≤ es.length) (fun _ h1 hJ => ?_) ?_
  · obtain ⟨rfl, h1, h2⟩ := hJ
    refine nn (ldAt0 H i hi sl rfl ?_)
    rw [w64 (by omega) (by omega)]
    have hk : index.toNat - 1 < es.length := by omega
    rw [if_neg (by omega), if_neg (by omega), List.getElem?_eq_getElem hk] at hR
    refine ixAt H j hj (index.toNat - 1) (by omega) hk fun e he => ?_
    exact ldEl0 (E := eRE) H j hj he hk _ rfl hR
  · refine brF (brD (fun h1 => ?_) fun h1 => ?_)
    · rw [if_pos (.inl h1)] at hR; exact hR
    · refine nn (ldAt0 H i hi sl rfl (brD (fun h2 => ?_) fun h2 => ?_))
      · rw [if_pos (.inr (by omega))] at hR; exact hR
      · refine br beq_iff_eq (fun h3 => ?_) fun h3 => ⟨rfl, by omega, by omega⟩
        rw [if_neg (by omega), if_pos h3] at hR; exact hR
theorem log_Younger_ok {index term : Int} {R : Bool → Heap → Prop} (H : At h0 h L) (i : Nat) (hi : L[i]? = some (.blk lg t [.slice sl.a sl.n sl.c])) (j : Nat) (hj : L[j]? = some (.own sl 2 (eRE.fl es))) (hl : es.length ≤ 100000) (hR : R (decide (youngB es index term)) h) : C_log_Log_Younger (some ⟨lg, 0, none⟩) index term h R := by
  refine A_log_Log_Younger ?_
  unfold S_log_Log_Younger
  refine log_Last_ok H i hi j hj hl (brT (brD (fun h1 => ?_) fun h1 => ?_))
  · rw [decide_eq_true (show youngB es index term from .inl h1)] at hR; exact hR
  · refine br beq_iff_eq (fun h2 => ?_) fun h2 => ?_
    · have e : decide (youngB es index term) = decide (index ≥ es.length) := by
        rw [decide_eq_decide]; unfold youngB
        exact ⟨fun x => by omega, fun x => .inr ⟨h2, x⟩⟩
      rw [e] at hR; exact hR
    · rw [decide_eq_false (show ¬ youngB es index term from fun x => by unfold youngB at x; omega)] at hR; exact hR
/-- Two rows of things, the second one made behind the first one's heap. -/
theorem At.join {h' : Heap} {M : List Res} (H : At h0 h L) (H2 : At h h' M) : At h0 h' (M ++ L) := by
  have H' := H.ext' H2.ext
  refine ⟨H'.ext, fun r hr => ?_, fun r hr g hg => ?_, List.pairwise_append.2 ⟨H2.sep, H.sep, fun a ha b hb g hg x => ?_⟩⟩
  · rcases List.mem_append.1 hr with hr | hr
    · exact H2.ok r hr
    · exact H'.ok r hr
  · rcases List.mem_append.1 hr with hr | hr
    · exact Nat.le_trans H.le (H2.lo r hr g hg)
    · exact H.lo r hr g hg
  · have h1 := H2.lo a ha g hg
    have h2 := Res.lt b (H.ok b hb) g x
    omega
theorem Clone_re_ok {s : Sl} {R : Sl → Heap → Prop} (H : At h0 h L) (A : RdS h 2 s (eRE.fl es)) (hl : es.length ≤ 100000) (hR : ∀ r h', At h0 h' (.own r 2 (eRE.fl es) :: L) → R r h') : C_slices_Clone_api_Entry_api_Entry s h R := by
  refine A_slices_Clone_api_Entry_api_Entry ?_
  unfold S_slices_Clone_api_Entry_api_Entry
  have H0 := At.start h
  refine brB (fun ha => ?_) fun ha => ?_
  · have hl0 : es = [] := by
      apply List.eq_nil_of_length_eq_zero
      apply Nat.eq_zero_of_not_pos
      intro hp
      obtain ⟨g, o, hs, _⟩ := A.2 (by rw [eRE.fl_len]; omega)
      rw [hs] at ha; cases ha
    subst hl0
    exact hR _ _ (H.nil 2)
  · refine allocAt (cs := []) H0 fun h1 b H1 => ?_
    have H2 := H1.as_ 0 rfl (.own ⟨some ⟨b, 0, none⟩, 0, 0⟩ 2 (eRE.fl [])) (Own.full (H1.get 0 rfl : Blk h1 b _ []) (sz := 2) (n := 0) rfl (by decide)) (fun g hg => by have hg : some b = some g := hg; injection hg with hg; exact hg.symm)
    refine appAt (ys := es) TRE H2 0 rfl (H2.arg A) (by simp; omega) (by simp; omega) fun s' h' H3 => ?_
    rw [List.nil_append] at H3
    exact hR s' h' (H.join H3)
theorem log_New_ok {s : Sl} {R : Option Addr → Heap → Prop} (H : At h0 h L) (A : RdS h 2 s (eRE.fl es)) (hl : es.length ≤ 100000) (hR : ∀ lg sl h', At h0 h' (.blk lg 101 [.slice sl.a sl.n sl.c] :: .own sl 2 (eRE.fl es) :: L) → R (some ⟨lg, 0, none⟩) h') : C_log_New s h R := by
  refine A_log_New ?_
  unfold S_log_New
  refine Clone_re_ok H A hl fun r h1 H => ?_
  exact allocAt (cs := [.slice r.a r.n r.c]) H fun h2 b H => hR b r h2 H
theorem log_All_ok {R : Sl → Heap → Prop} (H : At h0 h L) (i : Nat) (hi : L[i]? = some (.blk lg t [.slice sl.a sl.n sl.c])) (j : Nat) (hj : L[j]? = some (.own sl 2 (eRE.fl es))) (hl : es.length ≤ 100000) (hR : ∀ r h', At h0 h' (.own r 2 (eRE.fl es) :: L) → R r h') : C_log_Log_All (some ⟨lg, 0, none⟩) h R := by
  refine A_log_Log_All ?_
  unfold S_log_Log_All
  refine brF (nn (ldAt0 H i hi sl rfl ?_))
  exact Clone_re_ok H (H.rdo j hj) hl hR
theorem log_From_ok {index most : Int} {R : Sl → Heap → Prop} (H : At h0 h L) (i : Nat) (hi : L[i]? = some (.blk lg t [.slice sl.a sl.n sl.c])) (j : Nat) (hj : L[j]? = some (.own sl 2 (eRE.fl es))) (hl : es.length ≤ 100000) (hi1 : -1000000 ≤ index ∧ index ≤ 1000000) (hm : -1000000 ≤ most ∧ most ≤ 1000000)
    (hR : ∀ r h', At h0 h' (.own r 2 (eRE.fl (fromL es index most)) :: L) → R r h') : C_log_Log_From (some ⟨lg, 0, none⟩) index most h R := by
  refine A_log_Log_From ?_
  unfold S_log_Log_From
  have hn := H.n j hj
  unfold fromL at hR
  refine log_Last_ok H i hi j hj hl (let_ ?_)
  generalize hx : (if 1 > index then 1 else index) = x at *
  have hx1 : 1 ≤ x ∧ x ≤ 1000000 := by split at hx <;> omega
  refine join1 (s1 := .one .bool) (fun (q : Bool) h1 => (q = true ↔ (x > es.length ∨ most < 1)) ∧ h1 = h) (fun _ (q : Bool) h1 hJ => ?_) ?_
  · obtain ⟨hq, rfl⟩ := hJ
    refine brB (fun hqt => ?_) fun hqf => ?_
    · have e : (es.drop (x.toNat - 1)).take most.toNat = [] := by
        rcases hq.1 hqt with h2 | h2
        · rw [List.drop_eq_nil_of_le (by omega), List.take_nil]
        · rw [show most.toNat = 0 by omega, List.take_zero]
      rw [e] at hR
      exact hR _ _ (H.nil 2)
    · have hno : ¬ (x > es.length ∨ most < 1) := fun h2 => by rw [hq.2 h2] at hqf; cases hqf
      refine nn (ldAt0 H i hi sl rfl ?_)
      have hc := (H.own j hj).2.1
      rw [w64 (n := x - 1) (by omega) (by omega), w64 (n := (es.length : Int) - x) (by omega) (by omega), w64 (n := (es.length : Int) - x + 1) (by omega) (by omega)]
      generalize hy : (if (es.length : Int) - x + 1 < most then (es.length : Int) - x + 1 else most) = y
      have hy1 : 1 ≤ y ∧ y ≤ (es.length : Int) - x + 1 := by split at hy <;> omega
      rw [w64 (by omega) (by omega)]
      refine cutR (E := eRE) TRE (H.rdo j hj) (x.toNat - 1) (x.toNat - 1 + y.toNat) sl.c (loi (by omega)) (hii (by omega)) (.inl ⟨rfl, rfl⟩) (by omega) (by omega) (by omega) (Nat.le_refl _) fun s2 r2 n2 c2 b2 => ?_
      have e : (es.drop (x.toNat - 1)).take (x.toNat - 1 + y.toNat - (x.toNat - 1)) = (es.drop (x.toNat - 1)).take most.toNat := by
        rw [show x.toNat - 1 + y.toNat - (x.toNat - 1) = y.toNat by omega]
        split at hy
        · rw [List.take_of_length_le (by rw [List.length_drop]; omega), List.take_of_length_le (by rw [List.length_drop]; omega)]
        · rw [hy]
      rw [e] at r2
      exact Clone_re_ok H r2 (by rw [List.length_take, List.length_drop]; omega) hR
  · refine brD (fun h2 => ⟨⟨fun _ => .inl h2, fun _ => rfl⟩, rfl⟩) fun h2 => ⟨?_, rfl⟩
    rw [decide_eq_true_iff]
    exact ⟨fun h3 => .inr h3, fun h3 => by omega⟩
theorem log_Add_ok {tm : Int} {dt : ByteArray} {R : Int → Heap → Prop} (H : At h0 h (.blk lg t [.slice sl.a sl.n sl.c] :: .own sl 2 (eRE.fl es) :: G)) (hl : es.length ≤ 100000)
    (h1 : tm < lastT es → ∀ h', At h0 h' (.blk lg t [.slice sl.a sl.n sl.c] :: .own sl 2 (eRE.fl es) :: G) → R 5 h') (h2 : ¬ tm < lastT es → es.length ≥ 1024 → ∀ h', At h0 h' (.blk lg t [.slice sl.a sl.n sl.c] :: .own sl 2 (eRE.fl es) :: G) → R 7 h')
    (h3 : ¬ tm < lastT es → ¬ es.length ≥ 1024 → ∀ h' sl', At h0 h' (.blk lg t [.slice sl'.a sl'.n sl'.c] :: .own sl' 2 (eRE.fl (es ++ [⟨tm, dt⟩])) :: G) → R 0 h') : C_log_Log_Add (some ⟨lg, 0, none⟩) (tm, dt, ()) h R := by
  refine A_log_Log_Add ?_
  unfold S_log_Log_Add
  refine allocAt (cs := [.int .i64 tm, .string dt]) H fun h b H => ?_
  refine log_Last_ok H 1 rfl 2 rfl hl (brF ?_)
  repeat (first | with_reducible refine nn ?_ | with_reducible refine let_ ?_ | with_reducible refine brSome ?_ | with_reducible refine brF ?_ | with_reducible refine brT ?_ | ((with_reducible apply ldAt H 0); exact rfl; exact rfl) | ((with_reducible apply ldAt0 H 0); exact rfl; exact rfl) | ((with_reducible apply stAt H 0); exact rfl; exact rfl; intro h H) | ((with_reducible apply stAt0 H 0); exact rfl; exact rfl; intro h H) | ((with_reducible refine ⟨?_, ?_⟩); first | ((with_reducible apply ldAt H 0); exact rfl; exact rfl; exact rfl) | ((with_reducible apply ldAt0 H 0); exact rfl; exact rfl; exact rfl)))
  refine brD (fun h4 => h1 h4 _ H.tail) fun h4 => ?_
  refine brD (fun h5 => h2 h4 (by omega) _ H.tail) fun h5 => ?_
  repeat (first | with_reducible refine nn ?_ | with_reducible refine let_ ?_ | with_reducible refine brSome ?_ | with_reducible refine brF ?_ | with_reducible refine brT ?_ | ((with_reducible apply ldAt H 0); exact rfl; exact rfl) | ((with_reducible apply ldAt0 H 0); exact rfl; exact rfl) | ((with_reducible apply ldAt H 1); exact rfl; exact rfl) | ((with_reducible apply ldAt0 H 1); exact rfl; exact rfl) | ((with_reducible apply ldAt H 2); exact rfl; exact rfl) | ((with_reducible apply ldAt0 H 2); exact rfl; exact rfl) | ((with_reducible apply stAt H 0); exact rfl; exact rfl; intro h H) | ((with_reducible apply stAt0 H 0); exact rfl; exact rfl; intro h H) | ((with_reducible apply stAt H 1); exact rfl; exact rfl; intro h H) | ((with_reducible apply stAt0 H 1); exact rfl; exact rfl; intro h H) | ((with_reducible apply stAt H 2); exact rfl; exact rfl; intro h H) | ((with_reducible apply stAt0 H 2); exact rfl; exact rfl; intro h H) | ((with_reducible apply allocAt H); intro h b H) | ((with_reducible refine ⟨?_, ?_⟩); first | ((with_reducible apply ldAt H 0); exact rfl; exact rfl; exact rfl) | ((with_reducible apply ldAt0 H 0); exact rfl; exact rfl; exact rfl) | ((with_reducible apply ldAt H 1); exact rfl; exact rfl; exact rfl) | ((with_reducible apply ldAt0 H 1); exact rfl; exact rfl; exact rfl) | ((with_reducible apply ldAt H 2); exact rfl; exact rfl; exact rfl) | ((with_reducible apply ldAt0 H 2); exact rfl; exact rfl; exact rfl)))
  refine app1B (E := eRE) TRE H 3 rfl 0 rfl ⟨tm, dt⟩ rfl (by omega) (by omega) fun s3 h H => ?_
  repeat (first | with_reducible refine nn ?_ | with_reducible refine let_ ?_ | with_reducible refine brSome ?_ | with_reducible refine brF ?_ | with_reducible refine brT ?_ | ((with_reducible apply ldAt H 0); exact rfl; exact rfl) | ((with_reducible apply ldAt0 H 0); exact rfl; exact rfl) | ((with_reducible apply ldAt H 1); exact rfl; exact rfl) | ((with_reducible apply ldAt0 H 1); exact rfl; exact rfl) | ((with_reducible apply ldAt H 2); exact rfl; exact rfl) | ((with_reducible apply ldAt0 H 2); exact rfl; exact rfl) | ((with_reducible apply stAt H 0); exact rfl; exact rfl; intro h H) | ((with_reducible apply stAt0 H 0); exact rfl; exact rfl; intro h H) | ((with_reducible apply stAt H 1); exact rfl; exact rfl; intro h H) | ((with_reducible apply stAt0 H 1); exact rfl; exact rfl; intro h H) | ((with_reducible apply stAt H 2); exact rfl; exact rfl; intro h H) | ((with_reducible apply stAt0 H 2); exact rfl; exact rfl; intro h H) | ((with_reducible apply allocAt H); intro h b H) | ((with_reducible refine ⟨?_, ?_⟩); first | ((with_reducible apply ldAt H 0); exact rfl; exact rfl; exact rfl) | ((with_reducible apply ldAt0 H 0); exact rfl; exact rfl; exact rfl) | ((with_reducible apply ldAt H 1); exact rfl; exact rfl; exact rfl) | ((with_reducible apply ldAt0 H 1); exact rfl; exact rfl; exact rfl) | ((with_reducible apply ldAt H 2); exact rfl; exact rfl; exact rfl) | ((with_reducible apply ldAt0 H 2); exact rfl; exact rfl; exact rfl)))
  exact h3 h4 (by omega) _ s3 H.tail.tail
end
end Go.Proofs.YtniojdaddolnfaaGreat

/-
  Layer 8 (raft): the contracts of the inner calls.
-/
namespace Go.Proofs.YtniojdaddolnfaaGreat
open Go

def RN.cells (X : RN) (lg : Nat) (so : Sl) : List Value :=
  [.int .i64 X.id, .int .i64 X.n, .int .i64 X.elect, .int .i64 X.beat, .int .i64 X.term, .int .i64 X.vote, .int .i64 X.role, .int .i64 X.leader, .int .i64 X.since, .int .i64 X.quiet, .int .i64 X.commit,
   .pointer (some ⟨lg, 0, none⟩), .int .u64 (X.votes : Int), .int .u64 (X.heard : Int),
   .int .i64 (X.next 0), .int .i64 (X.next 1), .int .i64 (X.next 2), .int .i64 (X.next 3), .int .i64 (X.next 4), .int .i64 (X.next 5), .int .i64 (X.next 6),
   .int .i64 (X.matc 0), .int .i64 (X.matc 1), .int .i64 (X.matc 2), .int .i64 (X.matc 3), .int .i64 (X.matc 4), .int .i64 (X.matc 5), .int .i64 (X.matc 6),
   .slice so.a so.n so.c, .bool X.hard, .int .i64 X.from_]
def eMS : Enc (RM × Sl) 9 := ⟨fun a => [.int .i64 a.1.kind, .int .i64 a.1.from_, .int .i64 a.1.to, .int .i64 a.1.term, .int .i64 a.1.index, .int .i64 a.1.logTerm, .int .i64 a.1.commit, .bool a.1.yes, .slice a.2.a a.2.n a.2.c], fun _ => rfl, by decide, fun x u hu => by
  simp only [List.mem_cons, List.not_mem_nil, or_false] at hu
  rcases hu with rfl | rfl | rfl | rfl | rfl | rfl | rfl | rfl | rfl <;> rfl⟩
theorem TMS : ElemT Tryz.prog 54 59 9 88 := .of (by kernel_rfl)
def fourL (d : Nat) (ty : TypeId) (lg : Nat) (tl : TypeId) (sl so : Sl) (X : RN) (z : List (RM × Sl)) : List Res :=
  [.blk d ty (X.cells lg so), .blk lg tl [.slice sl.a sl.n sl.c], .own sl 2 (eRE.fl X.log), .own so 9 (eMS.fl z)]
def entsR (z : List (RM × Sl)) : List Res := z.map fun q => .own q.2 2 (eRE.fl q.1.ents)
def RaftAt (h0 h : Heap) (d : Nat) (X : RN) (F : List Res) : Prop :=
  ∃ ty lg tl sl so z, z.map Prod.fst = X.out ∧ At h0 h (fourL d ty lg tl sl so X z ++ (F ++ entsR z))
section
variable {h0 h : Heap} {F : List Res} {d : Nat} {X : RN}
theorem At.sub {L L' : List Res} (H : At h0 h L) (p : L'.Sublist L) : At h0 h L' := ⟨H.ext, fun r hr => H.ok r (p.subset hr), fun r hr => H.lo r (p.subset hr), H.sep.sublist p⟩
theorem RaftAt.perm {F' : List Res} (H : RaftAt h0 h d X F) (p : F.Perm F') : RaftAt h0 h d X F' := by
  obtain ⟨ty, lg, tl, sl, so, z, hz, H⟩ := H
  exact ⟨ty, lg, tl, sl, so, z, hz, H.perm (List.Perm.append_left _ (List.Perm.append_right _ p))⟩
theorem RaftAt.sub {F' : List Res} (H : RaftAt h0 h d X F) (p : F'.Sublist F) : RaftAt h0 h d X F' := by
  obtain ⟨ty, lg, tl, sl, so, z, hz, H⟩ := H
  exact ⟨ty, lg, tl, sl, so, z, hz, H.sub (List.Sublist.append_left (List.Sublist.append_right p _) _)⟩
theorem RaftAt.tail {r : Res} (H : RaftAt h0 h d X (r :: F)) : RaftAt h0 h d X F := H.sub (List.sublist_cons_self ..)
theorem RaftAt.ats (H : RaftAt h0 h d X F) : At h0 h F := by
  obtain ⟨ty, lg, tl, sl, so, z, hz, H⟩ := H
  exact H.sub ((List.sublist_append_left ..).trans (List.sublist_append_right ..))
theorem RaftAt.alloc {t : TypeId} {cs : List Value} {K : Addr → Heap → Prop} (H : RaftAt h0 h d X F) (hk : ∀ h' b, RaftAt h0 h' d X (.blk b t cs :: F) → K ⟨b, 0, none⟩ h') : Alloc h (.cells cs.toArray t) K := by
  obtain ⟨ty, lg, tl, sl, so, z, hz, H⟩ := H
  exact allocAt H fun h' b H => hk h' b ⟨ty, lg, tl, sl, so, z, hz, H.mv 1 4⟩
theorem RaftAt.nil (H : RaftAt h0 h d X F) (sz : Nat) : RaftAt h0 h d X (.own ⟨none, 0, 0⟩ sz [] :: F) := by
  obtain ⟨ty, lg, tl, sl, so, z, hz, H⟩ := H
  exact ⟨ty, lg, tl, sl, so, z, hz, (H.nil sz).mv 1 4⟩
theorem RaftAt.nilE {xs : List RE} (H : RaftAt h0 h d X F) (he : xs = []) : RaftAt h0 h d X (.own ⟨none, 0, 0⟩ 2 (eRE.fl xs) :: F) := by
  subst he
  exact H.nil 2
theorem ldR_ok {kd : Kd} {j : Nat} {K : kd.T → Prop} (H : RaftAt h0 h d X F) (x : kd.T) (hx : ∀ lg so, (X.cells lg so)[j]? = some (kd.mk x)) (hK : K x) : Ld kd h ((⟨d, 0, none⟩ : Addr).add j) K := by
  obtain ⟨ty, lg, tl, sl, so, z, hz, H⟩ := H
  exact ldAt H 0 rfl x (hx lg so) hK
theorem ldR0_ok {kd : Kd} {K : kd.T → Prop} (H : RaftAt h0 h d X F) (x : kd.T) (hx : ∀ lg so, (X.cells lg so)[0]? = some (kd.mk x)) (hK : K x) : Ld kd h (⟨d, 0, none⟩ : Addr) K := by
  obtain ⟨ty, lg, tl, sl, so, z, hz, H⟩ := H
  exact ldAt0 H 0 rfl x (hx lg so) hK
theorem stR_ok {j : Nat} {v : Value} {K : Heap → Prop} (Y : RN) (H : RaftAt h0 h d X F) (hj : Nat.ble (j + 1) 31 = true) (hl : Y.log = X.log) (ho : Y.out = X.out) (hy : ∀ lg so, Y.cells lg so = (X.cells lg so).set j v) (hK : ∀ h', RaftAt h0 h' d Y F → K h') : St h ((⟨d, 0, none⟩ : Addr).add j) v K := by
  obtain ⟨ty, lg, tl, sl, so, z, hz, H⟩ := H
  refine stAt H 0 rfl hj fun h' H => hK h' ⟨ty, lg, tl, sl, so, z, hz.trans ho.symm, ?_⟩
  unfold fourL
  rw [hy, hl]
  exact H
theorem cells_next (X : RN) (lg : Nat) (so : Sl) : ∀ k, k < 7 → (X.cells lg so)[14 + k]? = some (.int .i64 (X.next k))
  | 0, _ => rfl | 1, _ => rfl | 2, _ => rfl | 3, _ => rfl | 4, _ => rfl | 5, _ => rfl | 6, _ => rfl
theorem cells_matc (X : RN) (lg : Nat) (so : Sl) : ∀ k, k < 7 → (X.cells lg so)[21 + k]? = some (.int .i64 (X.matc k))
  | 0, _ => rfl | 1, _ => rfl | 2, _ => rfl | 3, _ => rfl | 4, _ => rfl | 5, _ => rfl | 6, _ => rfl
theorem cells_nextS (X : RN) (lg : Nat) (so : Sl) (v : Int) : ∀ k, k < 7 → ({ X with next := upd X.next k v } : RN).cells lg so = (X.cells lg so).set (14 + k) (.int .i64 v)
  | 0, _ => rfl | 1, _ => rfl | 2, _ => rfl | 3, _ => rfl | 4, _ => rfl | 5, _ => rfl | 6, _ => rfl
theorem cells_matcS (X : RN) (lg : Nat) (so : Sl) (v : Int) : ∀ k, k < 7 → ({ X with matc := upd X.matc k v } : RN).cells lg so = (X.cells lg so).set (21 + k) (.int .i64 v)
  | 0, _ => rfl | 1, _ => rfl | 2, _ => rfl | 3, _ => rfl | 4, _ => rfl | 5, _ => rfl | 6, _ => rfl
theorem add_add (a : Addr) (m k : Nat) : (a.add m).add k = a.add (m + k) := by
  unfold Addr.add
  by_cases hm : m = 0 <;> by_cases hk : k = 0 <;> simp [hm, hk, Nat.add_assoc]
theorem ixArr {j : Nat} {i : Int} {K : Addr → Prop} (k : Nat) (hi : i = (k : Int)) (hk : k < 7) (hK : K ((⟨d, 0, none⟩ : Addr).add (j + k))) : IxA ((⟨d, 0, none⟩ : Addr).add j) 7 i 1 K := by
  subst hi
  refine ⟨by omega, by omega, ?_⟩
  rw [Int.toNat_natCast, Nat.mul_one, add_add]
  exact hK
/-- What the inner calls ask of a node. -/
structure RB (X : RN) : Prop where
  n1 : 1 ≤ X.n
  n7 : X.n ≤ 7
  id0 : 0 ≤ X.id
  idn : X.id < X.n
  nx : ∀ t, 0 ≤ X.next t ∧ X.next t ≤ 1025
  l : X.log.length ≤ 1024
theorem RB.of {Y : RN} (h : RB X) (h1 : Y.n = X.n) (h2 : Y.id = X.id) (h3 : Y.next = X.next) (h4 : Y.log = X.log) : RB Y := ⟨h1 ▸ h.n1, h1 ▸ h.n7, h2 ▸ h.id0, by rw [h1, h2]; exact h.idn, h3 ▸ h.nx, h4 ▸ h.l⟩
theorem others_len (X : RN) (k : Nat) : (others X k).length ≤ k := by
  unfold others
  exact Nat.le_trans (List.length_filter_le ..) (by rw [List.length_range]; exact Nat.le_refl _)
theorem others_succ (X : RN) (k : Nat) : others X (k + 1) = others X k ++ if (k : Int) ≠ X.id then [k] else [] := by
  unfold others
  rw [List.range_succ, List.filter_append]
  congr 1
  by_cases h : (k : Int) ≠ X.id
  · rw [if_pos h, List.filter_cons_of_pos (by simpa using h)]; rfl
  · rw [if_neg h, List.filter_cons_of_neg (by simpa using h)]; rfl
theorem raft_most_ok {v : Nat} {R : Bool → Heap → Prop} (H : RaftAt h0 h d X F) (hv : v < 128) (hR : R (decide (mostB X v)) h) : C_raft_Node_most (some ⟨d, 0, none⟩) (v : Int) h R := by
  refine A_raft_Node_most ?_
  unfold S_raft_Node_most
  refine nn (ldR_ok (j := 1) H X.n (fun _ _ => rfl) ?_)
  refine popT_ok hv ⟨ldR_ok (j := 1) H X.n (fun _ _ => rfl) rfl, ?_⟩
  have := popT_le ⟨v, hv⟩
  simp only at this
  rw [w64 (by omega) (by omega)]
  exact hR
theorem raft_follow_ok {t l : Int} {R : Heap → Prop} (H : RaftAt h0 h d X F) (hR : ∀ h', RaftAt h0 h' d (rFollow X t l) F → R h') : C_raft_Node_follow (some ⟨d, 0, none⟩) t l h R := by
  refine A_raft_Node_follow ?_
  unfold S_raft_Node_follow
  refine nn (ldR_ok (j := 4) H X.term (fun _ _ => rfl) ?_)
  unfold rFollow at hR
  refine join0 (fun h1 => RaftAt h0 h1 d (if t > X.term then { X with term := t, vote := -1, hard := true } else X) F) (fun _ h1 H => ?_) ?_
  · by_cases ht : t > X.term
    · rw [if_pos ht] at H hR
      exact nn (stR_ok (j := 6) { X with term := t, vote := -1, hard := true, role := 0 } H rfl rfl rfl (fun _ _ => rfl) fun h2 H => nn (stR_ok (j := 7) { X with term := t, vote := -1, hard := true, role := 0, leader := l } H rfl rfl rfl (fun _ _ => rfl) fun h3 H => hR _ H))
    · rw [if_neg ht] at H hR
      refine nn (stR_ok (j := 6) { X with role := 0 } H rfl rfl rfl (fun _ _ => rfl) fun h2 H => nn (stR_ok (j := 7) { X with role := 0, leader := l } H rfl rfl rfl (fun _ _ => rfl) fun h3 H => hR _ H))
  · refine brD (fun ht => ?_) fun ht => ?_
    · rw [if_pos ht]
      exact nn (stR_ok (j := 4) { X with term := t } H rfl rfl rfl (fun _ _ => rfl) fun h2 H => nn (stR_ok (j := 5) { X with term := t, vote := -1 } H rfl rfl rfl (fun _ _ => rfl) fun h3 H => nn (stR_ok (j := 29) { X with term := t, vote := -1, hard := true } H rfl rfl rfl (fun _ _ => rfl) fun h4 H => H)))
    · rw [if_neg ht]; exact H
theorem raft_dirty_ok {i : Int} {R : Heap → Prop} (H : RaftAt h0 h d X F) (hR : ∀ h', RaftAt h0 h' d (rDirty X i) F → R h') : C_raft_Node_dirty (some ⟨d, 0, none⟩) i h R := by
  refine A_raft_Node_dirty ?_
  unfold S_raft_Node_dirty
  unfold rDirty at hR
  refine nn (ldR_ok (j := 30) H X.from_ (fun _ _ => rfl) ?_)
  refine br beq_iff_eq (fun h1 => ?_) fun h1 => nn (ldR_ok (j := 30) H X.from_ (fun _ _ => rfl) (brD (fun h2 => ?_) fun h2 => ?_))
  · rw [if_pos (.inl h1)] at hR
    exact nn (stR_ok (j := 30) { X with from_ := i } H rfl rfl rfl (fun _ _ => rfl) fun h2 H => hR _ H)
  · rw [if_pos (.inr h2)] at hR
    exact nn (stR_ok (j := 30) { X with from_ := i } H rfl rfl rfl (fun _ _ => rfl) fun h2 H => hR _ H)
  · rw [if_neg (by omega)] at hR
    exact hR _ H
theorem permLast2 {α : Type} (r : α) (F B : List α) : ((r :: F) ++ B).Perm (F ++ (B ++ [r])) := by
  have h1 : ((r :: F) ++ B).Perm ((F ++ B) ++ [r]) := (List.perm_append_singleton r (F ++ B)).symm
  rw [List.append_assoc] at h1
  exact h1
theorem raft_send_ok {to : Int} {m : RM} {s2 : Sl} {R : Heap → Prop} (H : RaftAt h0 h d X (.own s2 2 (eRE.fl m.ents) :: F)) (ho : X.out.length ≤ 999999) (hR : ∀ h', RaftAt h0 h' d (rSend X to m) F → R h') :
    C_raft_Node_send (some ⟨d, 0, none⟩) to (m.kind, m.from_, m.to, m.term, m.index, m.logTerm, m.commit, m.yes, s2, ()) h R := by
  refine A_raft_Node_send ?_
  unfold S_raft_Node_send
  obtain ⟨ty, lg, tl, sl, so, z, hz, H⟩ := H
  have hzl : z.length = X.out.length := by rw [← hz, List.length_map]
  refine allocAt (cs := [.int .i64 m.kind, .int .i64 m.from_, .int .i64 m.to, .int .i64 m.term, .int .i64 m.index, .int .i64 m.logTerm, .int .i64 m.commit, .bool m.yes, .slice s2.a s2.n s2.c]) H fun h b1 H => ?_
  repeat (first | with_reducible refine nn ?_ | with_reducible refine let_ ?_ | with_reducible refine brSome ?_ | with_reducible refine brF ?_ | with_reducible refine brT ?_ | ((with_reducible apply ldAt H 0); exact rfl; exact rfl) | ((with_reducible apply ldAt0 H 0); exact rfl; exact rfl) | ((with_reducible apply ldAt H 1); exact rfl; exact rfl) | ((with_reducible apply ldAt0 H 1); exact rfl; exact rfl) | ((with_reducible apply stAt H 0); exact rfl; exact rfl; intro h H) | ((with_reducible apply stAt0 H 0); exact rfl; exact rfl; intro h H) | ((with_reducible apply stAt H 1); exact rfl; exact rfl; intro h H) | ((with_reducible apply stAt0 H 1); exact rfl; exact rfl; intro h H) | ((with_reducible refine ⟨?_, ?_⟩); first | ((with_reducible apply ldAt H 0); exact rfl; exact rfl; exact rfl) | ((with_reducible apply ldAt0 H 0); exact rfl; exact rfl; exact rfl) | ((with_reducible apply ldAt H 1); exact rfl; exact rfl; exact rfl) | ((with_reducible apply ldAt0 H 1); exact rfl; exact rfl; exact rfl)))
  refine allocAt (cs := [.int .i64 m.kind, .int .i64 X.id, .int .i64 to, .int .i64 m.term, .int .i64 m.index, .int .i64 m.logTerm, .int .i64 m.commit, .bool m.yes, .slice s2.a s2.n s2.c]) H fun h b2 H => ?_
  repeat (first | with_reducible refine nn ?_ | with_reducible refine let_ ?_ | with_reducible refine brSome ?_ | with_reducible refine brF ?_ | with_reducible refine brT ?_ | ((with_reducible apply ldAt H 2); exact rfl; exact rfl) | ((with_reducible apply ldAt0 H 2); exact rfl; exact rfl) | ((with_reducible apply stAt H 2); exact rfl; exact rfl; intro h H) | ((with_reducible apply stAt0 H 2); exact rfl; exact rfl; intro h H) | ((with_reducible refine ⟨?_, ?_⟩); first | ((with_reducible apply ldAt H 2); exact rfl; exact rfl; exact rfl) | ((with_reducible apply ldAt0 H 2); exact rfl; exact rfl; exact rfl)))
  refine app1B (E := eMS) TMS H 5 rfl 0 rfl ({ m with from_ := X.id, to := to }, s2) rfl (by omega) (by omega) fun s3 h H => ?_
  repeat (first | with_reducible refine nn ?_ | with_reducible refine let_ ?_ | with_reducible refine brSome ?_ | with_reducible refine brF ?_ | with_reducible refine brT ?_ | ((with_reducible apply ldAt H 2); exact rfl; exact rfl) | ((with_reducible apply ldAt0 H 2); exact rfl; exact rfl) | ((with_reducible apply stAt H 2); exact rfl; exact rfl; intro h H) | ((with_reducible apply stAt0 H 2); exact rfl; exact rfl; intro h H) | ((with_reducible refine ⟨?_, ?_⟩); first | ((with_reducible apply ldAt H 2); exact rfl; exact rfl; exact rfl) | ((with_reducible apply ldAt0 H 2); exact rfl; exact rfl; exact rfl)))
  have H : At h0 h (fourL d ty lg tl sl s3 (rSend X to m) (z ++ [({ m with from_ := X.id, to := to }, s2)]) ++ ((.own s2 2 (eRE.fl m.ents) :: F) ++ entsR z)) := H.tail.tail
  refine hR h ⟨ty, lg, tl, sl, s3, z ++ [({ m with from_ := X.id, to := to }, s2)], by rw [List.map_append, hz]; rfl, ?_⟩
  have e : entsR (z ++ [({ m with from_ := X.id, to := to }, s2)]) = entsR z ++ [.own s2 2 (eRE.fl m.ents)] := by unfold entsR; rw [List.map_append]; rfl
  rw [e]
  exact H.perm (List.Perm.append_left _ (permLast2 ..))
theorem raft_all_ok {m : RM} {R : Heap → Prop} (H : RaftAt h0 h d X F) (hb : RB X) (he : m.ents = []) (ho : X.out.length ≤ 900000) (hR : ∀ h', RaftAt h0 h' d (rAll X m) F → R h') :
    C_raft_Node_all (some ⟨d, 0, none⟩) (m.kind, m.from_, m.to, m.term, m.index, m.logTerm, m.commit, m.yes, ⟨none, 0, 0⟩, ()) h R := by
  refine A_raft_Node_all ?_
  unfold S_raft_Node_all
  have hn := hb.n7
  have hn1 := hb.n1
  refine RaftAt.alloc (cs := [.int .i64 m.kind, .int .i64 m.from_, .int .i64 m.to, .int .i64 m.term, .int .i64 m.index, .int .i64 m.logTerm, .int .i64 m.commit, .bool m.yes, .slice none 0 0]) H fun h b1 H => ?_
  refine nn (ldR_ok (j := 1) H X.n (fun _ _ => rfl) ?_)
  refine loop1 (s1 := .one (.int .i64)) (fun (y : Int) h1 => ∃ j : Nat, y = j ∧ (j : Int) ≤ X.n ∧ RaftAt h0 h1 d { X with out := X.out ++ (others X j).map fun t => { m with from_ := X.id, to := (t : Int) } } (.blk b1 59 [.int .i64 m.kind, .int .i64 m.from_, .int .i64 m.to, .int .i64 m.term, .int .i64 m.index, .int .i64 m.logTerm, .int .i64 m.commit, .bool m.yes, .slice none 0 0] :: F)) (fun (y : Int) _ => (X.n - y).toNat)
    ⟨0, rfl, by show (0 : Int) ≤ _; omega, by rw [show others X 0 = [] from rfl, List.map_nil, List.append_nil]; exact H⟩ fun _ (y : Int) h1 hI => ?_
  obtain ⟨j, rfl, hj, H⟩ := hI
  refine brD (fun hc => ?_) fun hc => ?_
  · refine nn (ldR0_ok H X.id (fun _ _ => rfl) ?_)
    rw [w64 (by omega) (by omega)]
    have hol := others_len X j
    have hs := others_succ X j
    refine br bne_iff_ne (fun hne => ?_) fun heq => ?_
    · rw [if_pos hne] at hs
      have A := H.ats
      refine ldAt0 A 0 rfl m.kind rfl (ldAt (j := 1) A 0 rfl m.from_ rfl (ldAt (j := 2) A 0 rfl m.to rfl (ldAt (j := 3) A 0 rfl m.term rfl (ldAt (j := 4) A 0 rfl m.index rfl (ldAt (j := 5) A 0 rfl m.logTerm rfl (ldAt (j := 6) A 0 rfl m.commit rfl (ldAt (j := 7) A 0 rfl m.yes rfl (ldAt (j := 8) A 0 rfl (⟨none, 0, 0⟩ : Sl) rfl ?_))))))))
      have H2 := H.nilE he
      refine raft_send_ok (m := m) (s2 := ⟨none, 0, 0⟩) H2 (by rw [List.length_append, List.length_map]; omega) fun h2 H => ?_
      refine ⟨⟨j + 1, by omega, by omega, ?_⟩, by omega⟩
      rw [hs, List.map_append, ← List.append_assoc]
      exact H
    · rw [if_neg heq, List.append_nil] at hs
      exact ⟨⟨j + 1, by omega, by omega, by rw [hs]; exact H⟩, by omega⟩
  · have hjn : X.n.toNat = j := by omega
    unfold rAll at hR
    rw [hjn] at hR
    exact hR _ H.tail
theorem raft_to_ok {k : Nat} {R : Heap → Prop} (H : RaftAt h0 h d X F) (hb : RB X) (hk : k < 7) (ho : X.out.length ≤ 999999) (hR : ∀ h', RaftAt h0 h' d (rTo X k) F → R h') : C_raft_Node_to (some ⟨d, 0, none⟩) (k : Int) h R := by
  refine A_raft_Node_to ?_
  unfold S_raft_Node_to
  have hnx := hb.nx k
  have hl := hb.l
  refine nn (ixArr k rfl hk ?_)
  refine ldR_ok (j := 14 + k) H (X.next k) (fun lg so => cells_next X lg so k hk) ?_
  rw [w64 (n := X.next k - 1) (by omega) (by omega)]
  refine let_ (nn ?_)
  obtain ⟨ty, lg, tl, sl, so, z, hz, H⟩ := H
  refine ldAt (j := 11) H 0 rfl (some ⟨lg, 0, none⟩) rfl ?_
  refine log_Term_ok H 1 rfl 2 rfl (by omega) ?_
  repeat (first | with_reducible refine nn ?_ | with_reducible refine let_ ?_ | with_reducible refine brSome ?_ | with_reducible refine brF ?_ | with_reducible refine brT ?_ | ((with_reducible apply ldAt H 0); exact rfl; exact rfl) | ((with_reducible apply ldAt0 H 0); exact rfl; exact rfl) | ((with_reducible apply stAt H 0); exact rfl; exact rfl; intro h H) | ((with_reducible apply stAt0 H 0); exact rfl; exact rfl; intro h H) | ((with_reducible refine ⟨?_, ?_⟩); first | ((with_reducible apply ldAt H 0); exact rfl; exact rfl; exact rfl) | ((with_reducible apply ldAt0 H 0); exact rfl; exact rfl; exact rfl)))
  rw [w64 (by omega) (by omega)]
  refine log_From_ok H 1 rfl 2 rfl (by omega) (by omega) (by omega) fun r h H => ?_
  repeat (first | with_reducible refine nn ?_ | with_reducible refine let_ ?_ | with_reducible refine brSome ?_ | with_reducible refine brF ?_ | with_reducible refine brT ?_ | ((with_reducible apply ldAt H 1); exact rfl; exact rfl) | ((with_reducible apply ldAt0 H 1); exact rfl; exact rfl) | ((with_reducible apply stAt H 1); exact rfl; exact rfl; intro h H) | ((with_reducible apply stAt0 H 1); exact rfl; exact rfl; intro h H) | ((with_reducible refine ⟨?_, ?_⟩); first | ((with_reducible apply ldAt H 1); exact rfl; exact rfl; exact rfl) | ((with_reducible apply ldAt0 H 1); exact rfl; exact rfl; exact rfl)))
  have H : RaftAt h0 h d X (.own r 2 (eRE.fl (fromL X.log (X.next k - 1 + 1) 8)) :: F) := ⟨ty, lg, tl, sl, so, z, hz, H.mv 1 4⟩
  exact raft_send_ok (m := ⟨5, 0, 0, X.term, X.next k - 1, (termAt X.log (X.next k - 1)).1, X.commit, false, fromL X.log (X.next k - 1 + 1) 8⟩) H ho hR
theorem raft_toAll_ok {R : Heap → Prop} (H : RaftAt h0 h d X F) (hb : RB X) (ho : X.out.length ≤ 900000) (hR : ∀ h', RaftAt h0 h' d (rToAll X) F → R h') : C_raft_Node_toAll (some ⟨d, 0, none⟩) h R := by
  refine A_raft_Node_toAll ?_
  unfold S_raft_Node_toAll
  have hn := hb.n7
  have hn1 := hb.n1
  refine nn (stR_ok (j := 8) { X with since := 0 } H rfl rfl rfl (fun _ _ => rfl) fun h1 H => nn (ldR_ok (j := 1) H X.n (fun _ _ => rfl) ?_))
  refine loop1 (s1 := .one (.int .i64)) (fun (y : Int) h1 => ∃ j : Nat, y = j ∧ (j : Int) ≤ X.n ∧ RaftAt h0 h1 d { X with since := 0, out := X.out ++ (others X j).map (toMsg X) } F) (fun (y : Int) _ => (X.n - y).toNat)
    ⟨0, rfl, by show (0 : Int) ≤ _; omega, by rw [show others X 0 = [] from rfl, List.map_nil, List.append_nil]; exact H⟩ fun _ (y : Int) h1 hI => ?_
  obtain ⟨j, rfl, hj, H⟩ := hI
  refine brD (fun hc => ?_) fun hc => ?_
  · refine nn (ldR0_ok H X.id (fun _ _ => rfl) ?_)
    rw [w64 (by omega) (by omega)]
    have hol := others_len X j
    have hs := others_succ X j
    refine br bne_iff_ne (fun hne => ?_) fun heq => ?_
    · rw [if_pos hne] at hs
      refine raft_to_ok (k := j) H (hb.of rfl rfl rfl rfl) (by omega) (by rw [List.length_append, List.length_map]; omega) fun h2 H => ?_
      refine ⟨⟨j + 1, by omega, by omega, ?_⟩, by omega⟩
      rw [hs, List.map_append, ← List.append_assoc]
      exact H
    · rw [if_neg heq, List.append_nil] at hs
      exact ⟨⟨j + 1, by omega, by omega, by rw [hs]; exact H⟩, by omega⟩
  · have hjn : X.n.toNat = j := by omega
    unfold rToAll at hR
    rw [hjn] at hR
    exact hR _ H
/-! ## Majorities -/
theorem range_filter {q : Nat → Bool} {n : Nat} : ∀ m, n ≤ m → ((List.range m).filter fun (t : Nat) => decide (t < n) && q t) = (List.range n).filter q
  | 0, h => by
    have : n = 0 := by omega
    subst this; rfl
  | m + 1, h => by
    by_cases e : n = m + 1
    · subst e
      refine List.filter_congr fun t ht => ?_
      rw [decide_eq_true (List.mem_range.1 ht), Bool.true_and]
    · rw [List.range_succ, List.filter_append, range_filter m (by omega)]
      rw [List.filter_cons_of_neg (by simp; omega)]
      simp
theorem cnt_bits {v : Nat} {i : Int} (hb : RB X) (hv : v < 128) (ht : ∀ t : Nat, t < 7 → (v.testBit t = true ↔ ((t : Int) < X.n ∧ ((t : Int) = X.id ∨ X.matc t ≥ i)))) : popT 7 v = cntG X i := by
  have := popT_bits ⟨v, hv⟩
  simp only at this
  rw [this]
  unfold bitsN cntG
  have hn := hb.n7
  rw [← range_filter (n := X.n.toNat) 7 (by omega)]
  congr 1
  refine List.filter_congr fun t h7 => ?_
  have h7 := List.mem_range.1 h7
  rw [Bool.eq_iff_iff, ht t h7, Bool.and_eq_true, decide_eq_true_iff, decide_eq_true_iff]
  constructor
  · rintro ⟨h1, h2⟩; exact ⟨by omega, h2⟩
  · rintro ⟨h1, h2⟩; exact ⟨by omega, h2⟩
theorem testBit_or_pow (g k t : Nat) : (g ||| 2 ^ k).testBit t = true ↔ g.testBit t = true ∨ t = k := by
  rw [Nat.testBit_or, Nat.testBit_two_pow]
  simp only [Bool.or_eq_true, decide_eq_true_eq]
  constructor
  · rintro (h | h); exact .inl h; exact .inr h.symm
  · rintro (h | h); exact .inl h; exact .inr h.symm
theorem agree_succ (X : RN) (i : Nat) : agreeAt X (i + 1) = if ((i + 1 : Nat) : Int) ≤ X.commit then none else if (termAt X.log ((i + 1 : Nat) : Int)).1 ≠ X.term then none else if 2 * (cntG X ((i + 1 : Nat) : Int) : Int) > X.n then some (i + 1) else agreeAt X i := rfl
theorem raft_agree_ok {R : Heap → Prop} (H : RaftAt h0 h d X F) (hb : RB X) (hc0 : 0 ≤ X.commit) (ho : X.out.length ≤ 900000) (hR : ∀ h', RaftAt h0 h' d (rAgree X) F → R h') : C_raft_Node_agree (some ⟨d, 0, none⟩) h R := by
  refine A_raft_Node_agree ?_
  unfold S_raft_Node_agree
  have hn := hb.n7
  have hn1 := hb.n1
  have hi0 := hb.id0
  have hin := hb.idn
  have hl := hb.l
  have H0 := H
  obtain ⟨ty, lg, tl, sl, so, z, hz, H⟩ := H
  refine nn (ldAt (j := 11) H 0 rfl (some ⟨lg, 0, none⟩) rfl ?_)
  refine log_Last_ok H 1 rfl 2 rfl (by omega) ?_
  unfold rAgree at hR
  refine loop1 (s1 := .one (.int .i64)) (fun (y : Int) h1 => ∃ j : Nat, y = j ∧ j ≤ X.log.length ∧ h1 = h ∧ agreeAt X X.log.length = agreeAt X j) (fun (y : Int) _ => y.toNat)
    ⟨X.log.length, rfl, Nat.le_refl _, rfl, rfl⟩ fun _ (y : Int) h1 hI => ?_
  obtain ⟨j, rfl, hj, rfl, hag⟩ := hI
  rw [hag] at hR
  refine nn (ldR_ok (j := 10) H0 X.commit (fun _ _ => rfl) (brD (fun hc => ?_) fun hc => ?_))
  · obtain ⟨i, rfl⟩ : ∃ i, j = i + 1 := ⟨j - 1, by omega⟩
    rw [agree_succ, if_neg (by omega)] at hR hag
    refine nn (ldAt (j := 11) H 0 rfl (some ⟨lg, 0, none⟩) rfl ?_)
    refine log_Term_ok H 1 rfl 2 rfl (by omega) ?_
    refine nn (ldR_ok (j := 4) H0 X.term (fun _ _ => rfl) ?_)
    refine br bne_iff_ne (fun hne => ?_) fun heq => ?_
    · rw [if_pos hne] at hR
      exact hR _ H0
    · rw [if_neg heq] at hR hag
      refine nn (ldR0_ok H0 X.id (fun _ _ => rfl) (nneg ?_ ?_))
      · rw [wu64 (by omega) (by omega)]; omega
      rw [bit_one hi0 (by omega)]
      refine let_ (nn (ldR_ok (j := 1) H0 X.n (fun _ _ => rfl) ?_))
      refine loop2 (s1 := .one (.int .u64)) (s2 := .one (.int .i64)) (fun (v y : Int) h2 => ∃ (w t : Nat), v = w ∧ y = t ∧ (t : Int) ≤ X.n ∧ w < 128 ∧ h2 = h1 ∧ ∀ u : Nat, u < 7 → (w.testBit u = true ↔ ((u : Int) = X.id ∨ (u < t ∧ X.matc u ≥ ((i + 1 : Nat) : Int))))) (fun _ (y : Int) _ => (X.n - y).toNat)
        ⟨2 ^ X.id.toNat, 0, rfl, rfl, by show (0 : Int) ≤ _; omega, pow7 hi0 (by omega), rfl, fun u hu => ?_⟩ fun _ (v y : Int) h2 hI => ?_
      · rw [Nat.testBit_two_pow, decide_eq_true_iff]
        omega
      obtain ⟨w, t, rfl, rfl, htn, hw, rfl, hbit⟩ := hI
      refine brD (fun hc2 => ?_) fun hc2 => ?_
      · refine nn (ldR0_ok H0 X.id (fun _ _ => rfl) ?_)
        rw [w64 (n := (t : Int) + 1) (by omega) (by omega)]
        refine br bne_iff_ne (fun hne => ?_) fun heq2 => ?_
        · refine nn (ixArr t rfl (by omega) ?_)
          refine ldR_ok (j := 21 + t) H0 (X.matc t) (fun lg so => cells_matc X lg so t (by omega)) ?_
          refine brD (fun hge => ?_) fun hlt => ?_
          · refine nneg (by rw [wu64 (by omega) (by omega)]; omega) ?_
            rw [bit_orT hw (by omega) (by omega)]
            refine let_ ⟨⟨w ||| 2 ^ ((t : Int)).toNat, t + 1, rfl, by omega, by omega, or7 hw (by omega) (by omega), rfl, fun u hu => ?_⟩, by omega⟩
            rw [testBit_or_pow, hbit u hu, Int.toNat_natCast]
            constructor
            · rintro ((h | h) | h)
              · exact .inl h
              · exact .inr ⟨by omega, h.2⟩
              · exact .inr ⟨by omega, by rw [h]; exact hge⟩
            · rintro (h | h)
              · exact .inl (.inl h)
              · by_cases e : u = t
                · exact .inr e
                · exact .inl (.inr ⟨by omega, h.2⟩)
          · refine ⟨⟨w, t + 1, rfl, by omega, by omega, hw, rfl, fun u hu => ?_⟩, by omega⟩
            rw [hbit u hu]
            constructor
            · rintro (h | h); exact .inl h; exact .inr ⟨by omega, h.2⟩
            · rintro (h | h)
              · exact .inl h
              · by_cases e : u = t
                · rw [e] at h; exact absurd h.2 hlt
                · exact .inr ⟨by omega, h.2⟩
        · have heq2 : (t : Int) = X.id := Decidable.not_not.1 heq2
          refine ⟨⟨w, t + 1, rfl, by omega, by omega, hw, rfl, fun u hu => ?_⟩, by omega⟩
          rw [hbit u hu]
          constructor
          · rintro (h | h); exact .inl h; exact .inr ⟨by omega, h.2⟩
          · rintro (h | h)
            · exact .inl h
            · by_cases e : u = t
              · rw [e]; exact .inl heq2
              · exact .inr ⟨by omega, h.2⟩
      · have hcnt : popT 7 w = cntG X ((i + 1 : Nat) : Int) := cnt_bits hb hw fun u hu => by
          rw [hbit u hu]
          constructor
          · rintro (h | h)
            · exact ⟨by omega, .inl h⟩
            · exact ⟨by omega, .inr h.2⟩
          · rintro ⟨h1, h | h⟩
            · exact .inl h
            · exact .inr ⟨by omega, h⟩
        have hmost : mostB X w ↔ 2 * (cntG X ((i + 1 : Nat) : Int) : Int) > X.n := by unfold mostB; rw [hcnt]
        refine raft_most_ok H0 hw (brD (fun hm => ?_) fun hm => ?_)
        · rw [if_pos (hmost.1 hm)] at hR
          refine nn (stR_ok (j := 10) { X with commit := ((i + 1 : Nat) : Int) } H0 rfl rfl rfl (fun _ _ => rfl) fun h3 H => ?_)
          exact raft_toAll_ok H (hb.of rfl rfl rfl rfl) ho hR
        · rw [if_neg fun x => hm (hmost.2 x)] at hag
          rw [w64 (by omega) (by omega)]
          exact let_ ⟨⟨i, by omega, by omega, rfl, hag⟩, by omega⟩
  · have e : agreeAt X j = none := by
      cases j with
      | zero => rfl
      | succ i => rw [agree_succ, if_pos (by omega)]
    rw [e] at hR
    exact hR _ H0
end
end Go.Proofs.YtniojdaddolnfaaGreat

/-
  Layer 8 (raft): the contracts of the outer calls.
-/
namespace Go.Proofs.YtniojdaddolnfaaGreat
open Go

section
variable {h0 h : Heap} {F : List Res} {d : Nat} {X : RN}
theorem rToAll_len (hb : RB X) : (rToAll X).out.length ≤ X.out.length + 7 := by
  have := others_len X X.n.toNat
  have := hb.n7
  show (X.out ++ _).length ≤ _
  rw [List.length_append, List.length_map]; omega
theorem rAll_len (hb : RB X) (m : RM) : (rAll X m).out.length ≤ X.out.length + 7 := by
  have := others_len X X.n.toNat
  have := hb.n7
  show (X.out ++ _).length ≤ _
  rw [List.length_append, List.length_map]; omega
theorem RaftAt.log {K : Option Addr → Prop} (H : RaftAt h0 h d X F) (hK : ∀ lg, K (some ⟨lg, 0, none⟩)) : Ld .ptr h ((⟨d, 0, none⟩ : Addr).add 11) K := by
  obtain ⟨ty, lg, tl, sl, so, z, hz, H⟩ := H
  exact ldAt (j := 11) H 0 rfl (some ⟨lg, 0, none⟩) rfl (hK lg)
/-- The log's last one, asked of the node's own log. -/
theorem lastR_ok {p : Addr → Addr} {R : Int → Int → Heap → Prop} (H : RaftAt h0 h d X F) (hl : X.log.length ≤ 100000) (hR : R (X.log.length : Int) (lastT X.log) h) : Ld .ptr h ((⟨d, 0, none⟩ : Addr).add 11) fun l => C_log_Log_Last l h R := by
  obtain ⟨ty, lg, tl, sl, so, z, hz, H⟩ := H
  exact ldAt (j := 11) H 0 rfl (some ⟨lg, 0, none⟩) rfl (log_Last_ok H 1 rfl 2 rfl hl hR)
theorem raft_Last_ok {R : Int → Heap → Prop} (H : RaftAt h0 h d X F) (hl : X.log.length ≤ 100000) (hR : R (X.log.length : Int) h) : C_raft_Node_Last (some ⟨d, 0, none⟩) h R := by
  refine A_raft_Node_Last ?_
  unfold S_raft_Node_Last
  exact brF (nn (lastR_ok (p := id) H hl hR))
theorem raft_add_ok {data : ByteArray} {R : Int → Heap → Prop} (H : RaftAt h0 h d X F) (hb : RB X) (hc0 : 0 ≤ X.commit) (ho : X.out.length ≤ 800000) (hR : ∀ h', RaftAt h0 h' d (rAdd X data).1 F → R (rAdd X data).2 h') : C_raft_Node_add (some ⟨d, 0, none⟩) data h R := by
  refine A_raft_Node_add ?_
  unfold S_raft_Node_add
  have hl := hb.l
  unfold rAdd at hR
  obtain ⟨ty, lg, tl, sl, so, z, hz, H⟩ := H
  repeat (first | with_reducible refine nn ?_ | with_reducible refine let_ ?_ | with_reducible refine brSome ?_ | with_reducible refine brF ?_ | with_reducible refine brT ?_ | ((with_reducible apply ldAt H 0); exact rfl; exact rfl) | ((with_reducible apply ldAt0 H 0); exact rfl; exact rfl) | ((with_reducible apply stAt H 0); exact rfl; exact rfl; intro h H) | ((with_reducible apply stAt0 H 0); exact rfl; exact rfl; intro h H) | ((with_reducible refine ⟨?_, ?_⟩); first | ((with_reducible apply ldAt H 0); exact rfl; exact rfl; exact rfl) | ((with_reducible apply ldAt0 H 0); exact rfl; exact rfl; exact rfl)))
  refine log_Add_ok (G := .blk d ty (X.cells lg so) :: .own so 9 (eMS.fl z) :: (F ++ entsR z)) (H.mv 1 2) (by omega) (fun h1 h' H => ?_) (fun h1 h2 h' H => ?_) fun h1 h2 h' sl' H => ?_
  · rw [if_pos h1] at hR
    exact brY rfl (hR _ ⟨ty, lg, tl, sl, so, z, hz, H.mv 2 1⟩)
  · rw [if_neg h1, if_pos h2] at hR
    exact brY rfl (hR _ ⟨ty, lg, tl, sl, so, z, hz, H.mv 2 1⟩)
  · rw [if_neg h1, if_neg h2] at hR
    refine brN rfl (nn ?_)
    have H : RaftAt h0 h' d { X with log := X.log ++ [⟨X.term, data⟩] } F := ⟨ty, lg, tl, sl', so, z, hz, H.mv 2 1⟩
    have hll : (X.log ++ [(⟨X.term, data⟩ : RE)]).length = X.log.length + 1 := by rw [List.length_append, List.length_singleton]
    have hb1 : RB { X with log := X.log ++ [⟨X.term, data⟩] } := ⟨hb.n1, hb.n7, hb.id0, hb.idn, hb.nx, by show (X.log ++ [_]).length ≤ _; rw [hll]; omega⟩
    refine lastR_ok (p := id) H (by show (X.log ++ [_]).length ≤ _; rw [hll]; omega) ?_
    have e : (((X.log ++ [(⟨X.term, data⟩ : RE)]).length : Nat) : Int) = (X.log.length : Int) + 1 := by rw [hll]; omega
    show C_raft_Node_dirty _ (((X.log ++ [(⟨X.term, data⟩ : RE)]).length : Nat) : Int) _ _
    rw [e]
    refine raft_dirty_ok H fun h3 H => ?_
    refine raft_toAll_ok H (hb1.of rfl rfl rfl rfl) (by show X.out.length ≤ _; omega) fun h4 H => ?_
    have hlen := rToAll_len (X := rDirty { X with log := X.log ++ [⟨X.term, data⟩] } ((X.log.length : Int) + 1)) (hb1.of rfl rfl rfl rfl)
    have hlen : (rToAll (rDirty { X with log := X.log ++ [⟨X.term, data⟩] } ((X.log.length : Int) + 1))).out.length ≤ X.out.length + 7 := hlen
    exact raft_agree_ok H (hb1.of rfl rfl rfl rfl) hc0 (by omega) fun h5 H => hR _ H
def leadJ (X : RN) (j : Nat) : RN := { X with since := 0, quiet := 0, role := 3, leader := X.id, heard := 0, next := fun t => if t < j then (X.log.length : Int) + 1 else X.next t, matc := fun t => if t < j then 0 else X.matc t }
theorem leadJ_succ (X : RN) (j : Nat) : ({ leadJ X j with next := upd (leadJ X j).next j ((X.log.length : Int) + 1), matc := upd (leadJ X j).matc j 0 } : RN) = leadJ X (j + 1) := by
  have e1 : upd (leadJ X j).next j ((X.log.length : Int) + 1) = (leadJ X (j + 1)).next := by
    funext t
    show (if t = j then _ else if t < j then _ else _) = if t < j + 1 then _ else _
    by_cases h : t = j
    · rw [if_pos h, if_pos (by omega)]
    · rw [if_neg h]
      by_cases h2 : t < j
      · rw [if_pos h2, if_pos (by omega)]
      · rw [if_neg h2, if_neg (by omega)]
  have e2 : upd (leadJ X j).matc j 0 = (leadJ X (j + 1)).matc := by
    funext t
    show (if t = j then _ else if t < j then _ else _) = if t < j + 1 then _ else _
    by_cases h : t = j
    · rw [if_pos h, if_pos (by omega)]
    · rw [if_neg h]
      by_cases h2 : t < j
      · rw [if_pos h2, if_pos (by omega)]
      · rw [if_neg h2, if_neg (by omega)]
  rw [e1, e2]; rfl
theorem leadJ_end (X : RN) (h : 0 ≤ X.n) : leadJ X X.n.toNat = rLead0 X := by
  unfold leadJ rLead0
  have e : ∀ t : Nat, (t < X.n.toNat) = ((t : Int) < X.n) := fun t => propext (by omega)
  simp only [e]
theorem RB.lead (hb : RB X) (j : Nat) : RB (leadJ X j) := ⟨hb.n1, hb.n7, hb.id0, hb.idn, fun t => by
  have hl := hb.l
  have hn := hb.nx t
  show 0 ≤ (if t < j then _ else _) ∧ (if t < j then _ else _) ≤ (1025 : Int)
  split <;> omega, hb.l⟩
theorem raft_leads_ok {R : Heap → Prop} (H : RaftAt h0 h d X F) (hb : RB X) (hc0 : 0 ≤ X.commit) (ho : X.out.length ≤ 790000) (hR : ∀ h', RaftAt h0 h' d (rLeads X) F → R h') : C_raft_Node_leads (some ⟨d, 0, none⟩) h R := by
  refine A_raft_Node_leads ?_
  unfold S_raft_Node_leads
  have hn := hb.n7
  have hn1 := hb.n1
  have hl := hb.l
  refine nn (ldR0_ok H X.id (fun _ _ => rfl) (nn ?_))
  refine stR_ok (j := 8) { X with since := 0 } H rfl rfl rfl (fun _ _ => rfl) fun h1 H => nn ?_
  refine stR_ok (j := 9) { X with since := 0, quiet := 0 } H rfl rfl rfl (fun _ _ => rfl) fun h1 H => nn ?_
  refine stR_ok (j := 6) { X with since := 0, quiet := 0, role := 3 } H rfl rfl rfl (fun _ _ => rfl) fun h1 H => nn ?_
  refine stR_ok (j := 7) { X with since := 0, quiet := 0, role := 3, leader := X.id } H rfl rfl rfl (fun _ _ => rfl) fun h1 H => nn ?_
  refine stR_ok (j := 13) { X with since := 0, quiet := 0, role := 3, leader := X.id, heard := 0 } H rfl rfl rfl (fun _ _ => rfl) fun h1 H => nn ?_
  refine lastR_ok (p := id) H (by show X.log.length ≤ _; omega) (nn ?_)
  refine ldR_ok (j := 1) H X.n (fun _ _ => rfl) ?_
  refine loop1 (s1 := .one (.int .i64)) (fun (y : Int) h1 => ∃ j : Nat, y = j ∧ (j : Int) ≤ X.n ∧ RaftAt h0 h1 d (leadJ X j) F) (fun (y : Int) _ => (X.n - y).toNat)
    ⟨0, rfl, by show (0 : Int) ≤ _; omega, H⟩ fun _ (y : Int) h1 hI => ?_
  obtain ⟨j, rfl, hj, H⟩ := hI
  refine brD (fun hc => ?_) fun hc => ?_
  · refine nn (ixArr j rfl (by omega) (nn ?_))
    show St _ _ (.int .i64 (IntKind.i64.wrap ((X.log.length : Int) + 1))) _
    rw [w64 (n := (X.log.length : Int) + 1) (by omega) (by omega), w64 (n := (j : Int) + 1) (by omega) (by omega)]
    refine stR_ok (j := 14 + j) { leadJ X j with next := upd (leadJ X j).next j ((X.log.length : Int) + 1) } H (by simp; omega) rfl rfl (fun lg so => cells_nextS _ lg so _ j (by omega)) fun h2 H => ?_
    refine ixArr j rfl (by omega) ?_
    refine stR_ok (j := 21 + j) { leadJ X j with next := upd (leadJ X j).next j ((X.log.length : Int) + 1), matc := upd (leadJ X j).matc j 0 } H (by simp; omega) rfl rfl (fun lg so => cells_matcS { leadJ X j with next := upd (leadJ X j).next j ((X.log.length : Int) + 1) } lg so _ j (by omega)) fun h3 H => ?_
    rw [leadJ_succ] at H
    exact ⟨⟨j + 1, by omega, by omega, H⟩, by omega⟩
  · have hjn : X.n.toNat = j := by omega
    rw [← hjn, leadJ_end X (by omega)] at H
    have hb2 : RB (rLead0 X) := by rw [← leadJ_end X (by omega)]; exact hb.lead _
    unfold rLeads at hR
    refine raft_add_ok H hb2 hc0 (by show X.out.length ≤ _; omega) fun h2 H => ?_
    refine br bne_iff_ne (fun hne => ?_) fun heq => ?_
    · rw [if_pos hne] at hR
      refine nn (ldR_ok (j := 4) H _ (fun _ _ => rfl) ?_)
      exact raft_follow_ok H hR
    · rw [if_neg heq] at hR
      exact hR _ H
theorem raft_stands_ok {R : Heap → Prop} (H : RaftAt h0 h d X F) (hb : RB X) (hc0 : 0 ≤ X.commit) (ht : 0 ≤ X.term ∧ X.term ≤ 1099511627776) (ho : X.out.length ≤ 780000) (hR : ∀ h', RaftAt h0 h' d (rStands X) F → R h') : C_raft_Node_stands (some ⟨d, 0, none⟩) h R := by
  refine A_raft_Node_stands ?_
  unfold S_raft_Node_stands
  have hn := hb.n7
  have hi0 := hb.id0
  have hin := hb.idn
  have hl := hb.l
  unfold rStands at hR
  refine nn (ldR0_ok H X.id (fun _ _ => rfl) (nneg (by rw [wu64 (by omega) (by omega)]; omega) (nn ?_)))
  rw [bit_one hi0 (by omega)]
  refine stR_ok (j := 8) { X with since := 0 } H rfl rfl rfl (fun _ _ => rfl) fun h1 H => nn ?_
  refine stR_ok (j := 6) { X with since := 0, role := 2 } H rfl rfl rfl (fun _ _ => rfl) fun h1 H => nn ?_
  refine stR_ok (j := 12) { X with since := 0, role := 2, votes := 2 ^ X.id.toNat } H rfl rfl rfl (fun _ _ => rfl) fun h1 H => nn ?_
  refine ldR_ok (j := 4) H X.term (fun _ _ => rfl) (nn (ldR0_ok H X.id (fun _ _ => rfl) (nn ?_)))
  rw [w64 (by omega) (by omega)]
  refine stR_ok (j := 4) { X with since := 0, role := 2, votes := 2 ^ X.id.toNat, term := X.term + 1 } H rfl rfl rfl (fun _ _ => rfl) fun h1 H => nn ?_
  refine stR_ok (j := 5) { X with since := 0, role := 2, votes := 2 ^ X.id.toNat, term := X.term + 1, vote := X.id } H rfl rfl rfl (fun _ _ => rfl) fun h1 H => nn ?_
  refine stR_ok (j := 29) (rStand0 X) H rfl rfl rfl (fun _ _ => rfl) fun h1 H => nn ?_
  refine ldR_ok (j := 12) H ((2 ^ X.id.toNat : Nat) : Int) (fun _ _ => rfl) ?_
  refine raft_most_ok H (pow7 hi0 (by omega)) (brD (fun hm => ?_) fun hm => ?_)
  · rw [if_pos (show mostB X (2 ^ X.id.toNat) from hm)] at hR
    exact raft_leads_ok H (hb.of rfl rfl rfl rfl) hc0 (by show X.out.length ≤ _; omega) hR
  · rw [if_neg (show ¬ mostB X (2 ^ X.id.toNat) from hm)] at hR
    refine nn (lastR_ok (p := id) H (by show X.log.length ≤ _; omega) (nn ?_))
    refine ldR_ok (j := 4) H (X.term + 1) (fun _ _ => rfl) ?_
    exact raft_all_ok (m := ⟨3, 0, 0, X.term + 1, X.log.length, lastT X.log, 0, false, []⟩) H (hb.of rfl rfl rfl rfl) rfl (by show X.out.length ≤ _; omega) hR
theorem raft_asks_ok {R : Heap → Prop} (H : RaftAt h0 h d X F) (hb : RB X) (hc0 : 0 ≤ X.commit) (ht : 0 ≤ X.term ∧ X.term ≤ 1099511627776) (ho : X.out.length ≤ 770000) (hR : ∀ h', RaftAt h0 h' d (rAsks X) F → R h') : C_raft_Node_asks (some ⟨d, 0, none⟩) h R := by
  refine A_raft_Node_asks ?_
  unfold S_raft_Node_asks
  have hn := hb.n7
  have hi0 := hb.id0
  have hin := hb.idn
  have hl := hb.l
  unfold rAsks at hR
  refine nn (ldR0_ok H X.id (fun _ _ => rfl) (nneg (by rw [wu64 (by omega) (by omega)]; omega) (nn ?_)))
  rw [bit_one hi0 (by omega)]
  refine stR_ok (j := 8) { X with since := 0 } H rfl rfl rfl (fun _ _ => rfl) fun h1 H => nn ?_
  refine stR_ok (j := 6) { X with since := 0, role := 1 } H rfl rfl rfl (fun _ _ => rfl) fun h1 H => nn ?_
  refine stR_ok (j := 7) { X with since := 0, role := 1, leader := -1 } H rfl rfl rfl (fun _ _ => rfl) fun h1 H => nn ?_
  refine stR_ok (j := 12) (rAsk0 X) H rfl rfl rfl (fun _ _ => rfl) fun h1 H => nn ?_
  refine ldR_ok (j := 12) H ((2 ^ X.id.toNat : Nat) : Int) (fun _ _ => rfl) ?_
  refine raft_most_ok H (pow7 hi0 (by omega)) (brD (fun hm => ?_) fun hm => ?_)
  · rw [if_pos (show mostB X (2 ^ X.id.toNat) from hm)] at hR
    exact raft_stands_ok H (hb.of rfl rfl rfl rfl) hc0 ht (by show X.out.length ≤ _; omega) hR
  · rw [if_neg (show ¬ mostB X (2 ^ X.id.toNat) from hm)] at hR
    refine nn (lastR_ok (p := id) H (by show X.log.length ≤ _; omega) (nn ?_))
    refine ldR_ok (j := 4) H X.term (fun _ _ => rfl) ?_
    rw [w64 (by omega) (by omega)]
    exact raft_all_ok (m := ⟨1, 0, 0, X.term + 1, X.log.length, lastT X.log, 0, false, []⟩) H (hb.of rfl rfl rfl rfl) rfl (by show X.out.length ≤ _; omega) hR
theorem raft_lead_ok {R : Heap → Prop} (H : RaftAt h0 h d X F) (hb : RB X) (hq : 0 ≤ X.quiet ∧ X.quiet ≤ 1000000000) (hh : X.heard < 128) (ho : X.out.length ≤ 780000) (hR : ∀ h', RaftAt h0 h' d (rLead X) F → R h') : C_raft_Node_lead (some ⟨d, 0, none⟩) h R := by
  refine A_raft_Node_lead ?_
  unfold S_raft_Node_lead
  have hn := hb.n7
  have hi0 := hb.id0
  have hin := hb.idn
  unfold rLead at hR
  refine nn (ldR_ok (j := 9) H X.quiet (fun _ _ => rfl) (nn ?_))
  rw [w64 (by omega) (by omega)]
  refine stR_ok (j := 9) { X with quiet := X.quiet + 1 } H rfl rfl rfl (fun _ _ => rfl) fun h1 H => nn ?_
  refine ldR_ok (j := 9) H (X.quiet + 1) (fun _ _ => rfl) (nn (ldR_ok (j := 2) H X.elect (fun _ _ => rfl) ?_))
  have beat : ∀ {Y : RN} {h2 : Heap}, RB Y → Y.out.length ≤ 780000 → RaftAt h0 h2 d Y F → (∀ h', RaftAt h0 h' d (rBeat Y) F → R h') → Nn (some (⟨d, 0, none⟩ : Addr)) fun p4 => Ld (.int .i64) h2 (p4.add 8) fun (since : Int) => Nn (some (⟨d, 0, none⟩ : Addr)) fun p5 => Ld (.int .i64) h2 (p5.add 3) fun (beat : Int) =>
      (bif decide (since ≥ beat) then C_raft_Node_toAll (some ⟨d, 0, none⟩) h2 fun h_2 => R h_2 else R h2) := fun {Y h2} hbY hoY H hR => by
    unfold rBeat at hR
    refine nn (ldR_ok (j := 8) H Y.since (fun _ _ => rfl) (nn (ldR_ok (j := 3) H Y.beat (fun _ _ => rfl) ?_)))
    refine brD (fun hs => ?_) fun hs => ?_
    · rw [if_pos hs] at hR
      exact raft_toAll_ok H hbY (by omega) hR
    · rw [if_neg hs] at hR
      exact hR _ H
  by_cases hqe : X.quiet + 1 ≥ X.elect
  · rw [if_pos hqe] at hR
    by_cases hm : mostB X (X.heard ||| 2 ^ X.id.toNat)
    · rw [if_neg fun x => x hm] at hR
      refine join0 (fun h2 => RaftAt h0 h2 d { X with quiet := 0, heard := 0 } F) (fun _ h2 H => beat (Y := { X with quiet := 0, heard := 0 }) (hb.of rfl rfl rfl rfl) ho H hR) ?_
      refine brY (decide_eq_true hqe) (nn (ldR_ok (j := 13) H (X.heard : Int) (fun _ _ => rfl) (nn (ldR0_ok H X.id (fun _ _ => rfl) (nneg (by rw [wu64 (by omega) (by omega)]; omega) ?_)))))
      rw [bit_orT hh hi0 (by omega)]
      refine let_ (nn ?_)
      refine stR_ok (j := 9) { X with quiet := 0 } H rfl rfl rfl (fun _ _ => rfl) fun h1 H => nn ?_
      refine stR_ok (j := 13) { X with quiet := 0, heard := 0 } H rfl rfl rfl (fun _ _ => rfl) fun h1 H => ?_
      exact raft_most_ok H (or7 hh hi0 (by omega)) (brN (by rw [decide_eq_true (show mostB { X with quiet := 0, heard := 0 } _ from hm)]; rfl) H)
    · rw [if_pos hm] at hR
      refine join0 (fun h2 => False) (fun _ h2 H => H.elim) ?_
      refine brY (decide_eq_true hqe) (nn (ldR_ok (j := 13) H (X.heard : Int) (fun _ _ => rfl) (nn (ldR0_ok H X.id (fun _ _ => rfl) (nneg (by rw [wu64 (by omega) (by omega)]; omega) ?_)))))
      rw [bit_orT hh hi0 (by omega)]
      refine let_ (nn ?_)
      refine stR_ok (j := 9) { X with quiet := 0 } H rfl rfl rfl (fun _ _ => rfl) fun h1 H => nn ?_
      refine stR_ok (j := 13) { X with quiet := 0, heard := 0 } H rfl rfl rfl (fun _ _ => rfl) fun h1 H => ?_
      refine raft_most_ok H (or7 hh hi0 (by omega)) (brY (by rw [decide_eq_false (show ¬ mostB { X with quiet := 0, heard := 0 } _ from hm)]; rfl) (nn ?_))
      refine ldR_ok (j := 4) H X.term (fun _ _ => rfl) ?_
      refine raft_follow_ok H fun h3 H => nn ?_
      refine stR_ok (j := 8) { rFollow { X with quiet := 0, heard := 0 } X.term (-1) with since := 0 } H rfl rfl rfl (fun _ _ => rfl) fun h4 H => hR _ H
  · rw [if_neg hqe] at hR
    refine join0 (fun h2 => RaftAt h0 h2 d { X with quiet := X.quiet + 1 } F) (fun _ h2 H => beat (Y := { X with quiet := X.quiet + 1 }) (hb.of rfl rfl rfl rfl) ho H hR) ?_
    exact brN (decide_eq_false hqe) H
theorem raft_Tick_ok {draw : Int} {R : Heap → Prop} (H : RaftAt h0 h d X F) (hb : RB X) (hc0 : 0 ≤ X.commit) (ht : 0 ≤ X.term ∧ X.term ≤ 1099511627776) (hs : 0 ≤ X.since ∧ X.since ≤ 1000000000) (hq : 0 ≤ X.quiet ∧ X.quiet ≤ 1000000000) (he : 1 ≤ X.elect ∧ X.elect ≤ 1000) (hh : X.heard < 128) (ho : X.out.length ≤ 700000)
    (hR : ∀ h', RaftAt h0 h' d (rTick X draw) F → R h') : C_raft_Node_Tick (some ⟨d, 0, none⟩) draw h R := by
  refine A_raft_Node_Tick ?_
  unfold S_raft_Node_Tick
  unfold rTick at hR
  refine brF (nn (ldR_ok (j := 8) H X.since (fun _ _ => rfl) (nn ?_)))
  rw [w64 (by omega) (by omega)]
  refine stR_ok (j := 8) { X with since := X.since + 1 } H rfl rfl rfl (fun _ _ => rfl) fun h1 H => nn ?_
  refine ldR_ok (j := 6) H X.role (fun _ _ => rfl) ?_
  refine br beq_iff_eq (fun hr => ?_) fun hr => nn ?_
  · rw [if_pos hr] at hR
    exact raft_lead_ok H (hb.of rfl rfl rfl rfl) hq hh (by show X.out.length ≤ _; omega) hR
  · rw [if_neg hr] at hR
    refine ldR_ok (j := 4) H X.term (fun _ _ => rfl) ?_
    refine brD (fun h2 => nn ?_) fun h2 => ?_
    · refine ldR_ok (j := 8) H (X.since + 1) (fun _ _ => rfl) (nn (ldR_ok (j := 2) H X.elect (fun _ _ => rfl) (nn (ldR_ok (j := 2) H X.elect (fun _ _ => rfl) ?_))))
      refine nz (by omega) ?_
      generalize hdr : (if 0 > draw then 0 else draw) = dr at hR ⊢
      have hdr0 : 0 ≤ dr := by split at hdr <;> omega
      rw [rem_nonneg hdr0]
      have h3 := Int.emod_nonneg dr (show X.elect ≠ 0 by omega)
      have h4 := Int.emod_lt_of_pos dr (show 0 < X.elect by omega)
      rw [w64 (by omega) (by omega)]
      refine brD (fun h5 => ?_) fun h5 => ?_
      · rw [if_pos ⟨h2, h5⟩] at hR
        exact raft_asks_ok H (hb.of rfl rfl rfl rfl) hc0 ht (by show X.out.length ≤ _; omega) hR
      · rw [if_neg fun x => h5 x.2] at hR
        exact hR _ H
    · rw [if_neg fun x => h2 x.1] at hR
      exact hR _ H
theorem raft_Propose_ok {data : ByteArray} {R : Int → Int → Heap → Prop} (H : RaftAt h0 h d X F) (hb : RB X) (hc0 : 0 ≤ X.commit) (ho : X.out.length ≤ 700000) (hl2 : (rAdd X data).1.log.length ≤ 100000)
    (hR : ∀ h', RaftAt h0 h' d (rPropose X data).1 F → R (rPropose X data).2.1 (rPropose X data).2.2 h') : C_raft_Node_Propose (some ⟨d, 0, none⟩) data h R := by
  refine A_raft_Node_Propose ?_
  unfold S_raft_Node_Propose
  unfold rPropose at hR
  refine brF (nn (ldR_ok (j := 6) H X.role (fun _ _ => rfl) ?_))
  refine br bne_iff_ne (fun hr => ?_) fun hr => ?_
  · rw [if_pos hr] at hR; exact hR _ H
  · rw [if_neg hr] at hR
    refine brD (fun h1 => ?_) fun h1 => ?_
    · rw [if_pos (by omega)] at hR; exact hR _ H
    · rw [if_neg (by omega)] at hR
      refine raft_add_ok H hb hc0 (by omega) fun h2 H => ?_
      refine br bne_iff_ne (fun h3 => ?_) fun h3 => ?_
      · rw [if_pos h3] at hR; exact hR _ H
      · rw [if_neg h3] at hR
        exact raft_Last_ok H hl2 (hR _ H)
theorem raft_Role_ok {R : Int → Heap → Prop} (H : RaftAt h0 h d X F) (hR : R X.role h) : C_raft_Node_Role (some ⟨d, 0, none⟩) h R := by
  refine A_raft_Node_Role ?_
  unfold S_raft_Node_Role
  exact brF (nn (ldR_ok (j := 6) H X.role (fun _ _ => rfl) hR))
theorem raft_Term_ok {R : Int → Heap → Prop} (H : RaftAt h0 h d X F) (hR : R X.term h) : C_raft_Node_Term (some ⟨d, 0, none⟩) h R := by
  refine A_raft_Node_Term ?_
  unfold S_raft_Node_Term
  exact brF (nn (ldR_ok (j := 4) H X.term (fun _ _ => rfl) hR))
theorem raft_Commit_ok {R : Int → Heap → Prop} (H : RaftAt h0 h d X F) (hR : R X.commit h) : C_raft_Node_Commit (some ⟨d, 0, none⟩) h R := by
  refine A_raft_Node_Commit ?_
  unfold S_raft_Node_Commit
  exact brF (nn (ldR_ok (j := 10) H X.commit (fun _ _ => rfl) hR))
def committedM (X : RN) (from_ : Int) : List RE := if (if 1 > from_ then 1 else from_) > X.commit then [] else fromL X.log (if 1 > from_ then 1 else from_) (X.commit - (if 1 > from_ then 1 else from_) + 1)
theorem raft_Committed_ok {from_ : Int} {R : Sl → Heap → Prop} (H : RaftAt h0 h d X F) (hl : X.log.length ≤ 1024) (hc : X.commit ≤ 1024)
    (hR : ∀ r h', RaftAt h0 h' d X (.own r 2 (eRE.fl (committedM X from_)) :: F) → R r h') : C_raft_Node_Committed (some ⟨d, 0, none⟩) from_ h R := by
  refine A_raft_Node_Committed ?_
  unfold S_raft_Node_Committed
  unfold committedM at hR
  refine brF (let_ (nn (ldR_ok (j := 10) H X.commit (fun _ _ => rfl) ?_)))
  generalize hf : (if 1 > from_ then 1 else from_) = f at hR ⊢
  have hf1 : 1 ≤ f := by split at hf <;> omega
  refine brD (fun h1 => ?_) fun h1 => nn ?_
  · rw [if_pos h1] at hR
    exact hR _ _ (H.nil 2)
  · rw [if_neg h1] at hR
    obtain ⟨ty, lg, tl, sl, so, z, hz, H⟩ := H
    refine ldAt (j := 11) H 0 rfl (some ⟨lg, 0, none⟩) rfl (nn ?_)
    repeat (first | with_reducible refine nn ?_ | with_reducible refine let_ ?_ | with_reducible refine brSome ?_ | with_reducible refine brF ?_ | with_reducible refine brT ?_ | ((with_reducible apply ldAt H 0); exact rfl; exact rfl) | ((with_reducible apply ldAt0 H 0); exact rfl; exact rfl) | ((with_reducible apply stAt H 0); exact rfl; exact rfl; intro h H) | ((with_reducible apply stAt0 H 0); exact rfl; exact rfl; intro h H) | ((with_reducible refine ⟨?_, ?_⟩); first | ((with_reducible apply ldAt H 0); exact rfl; exact rfl; exact rfl) | ((with_reducible apply ldAt0 H 0); exact rfl; exact rfl; exact rfl)))
    rw [w64 (n := X.commit - f) (by omega) (by omega), w64 (by omega) (by omega)]
    refine log_From_ok H 1 rfl 2 rfl (by omega) (by omega) (by omega) fun r h H => ?_
    exact hR r h ⟨ty, lg, tl, sl, so, z, hz, H.mv 1 4⟩
/-- What was sent since: the row and each one's entries are the caller's. -/
theorem raft_Out_ok {R : Sl → Heap → Prop} (H : RaftAt h0 h d X F) (hR : ∀ so z h', z.map Prod.fst = X.out → RaftAt h0 h' d { X with out := [] } (.own so 9 (eMS.fl z) :: (F ++ entsR z)) → R so h') : C_raft_Node_Out (some ⟨d, 0, none⟩) h R := by
  refine A_raft_Node_Out ?_
  unfold S_raft_Node_Out
  obtain ⟨ty, lg, tl, sl, so, z, hz, H⟩ := H
  refine brF ?_
  repeat (first | with_reducible refine nn ?_ | with_reducible refine let_ ?_ | with_reducible refine brSome ?_ | with_reducible refine brF ?_ | with_reducible refine brT ?_ | ((with_reducible apply ldAt H 0); exact rfl; exact rfl) | ((with_reducible apply ldAt0 H 0); exact rfl; exact rfl) | ((with_reducible apply stAt H 0); exact rfl; exact rfl; intro h H) | ((with_reducible apply stAt0 H 0); exact rfl; exact rfl; intro h H) | ((with_reducible refine ⟨?_, ?_⟩); first | ((with_reducible apply ldAt H 0); exact rfl; exact rfl; exact rfl) | ((with_reducible apply ldAt0 H 0); exact rfl; exact rfl; exact rfl)))
  refine hR so z h hz ⟨ty, lg, tl, sl, ⟨none, 0, 0⟩, [], rfl, ?_⟩
  have H := (H.nil 9).mv 1 3
  rw [show entsR [] = [] from rfl, List.append_nil]
  exact H
theorem raft_State_ok {R : KL [.int .i64, .int .i64, .sl] → Heap → Prop} (H : RaftAt h0 h d X F) (hl : X.log.length ≤ 100000) (hR : ∀ r h', RaftAt h0 h' d X (.own r 2 (eRE.fl X.log) :: F) → R (X.term, X.vote, r, ()) h') : C_raft_Node_State (some ⟨d, 0, none⟩) h R := by
  refine A_raft_Node_State ?_
  unfold S_raft_Node_State
  obtain ⟨ty, lg, tl, sl, so, z, hz, H⟩ := H
  refine allocAt (cs := [.int .i64 0, .int .i64 0, .slice none 0 0]) H fun h b H => ?_
  refine brF ?_
  repeat (first | with_reducible refine nn ?_ | with_reducible refine let_ ?_ | with_reducible refine brSome ?_ | with_reducible refine brF ?_ | with_reducible refine brT ?_ | ((with_reducible apply ldAt H 1); exact rfl; exact rfl) | ((with_reducible apply ldAt0 H 1); exact rfl; exact rfl) | ((with_reducible apply stAt H 1); exact rfl; exact rfl; intro h H) | ((with_reducible apply stAt0 H 1); exact rfl; exact rfl; intro h H) | ((with_reducible refine ⟨?_, ?_⟩); first | ((with_reducible apply ldAt H 1); exact rfl; exact rfl; exact rfl) | ((with_reducible apply ldAt0 H 1); exact rfl; exact rfl; exact rfl)))
  refine log_All_ok H 2 rfl 3 rfl hl fun r h H => ?_
  repeat (first | with_reducible refine nn ?_ | with_reducible refine let_ ?_ | with_reducible refine brSome ?_ | with_reducible refine brF ?_ | with_reducible refine brT ?_ | ((with_reducible apply ldAt H 1); exact rfl; exact rfl) | ((with_reducible apply ldAt0 H 1); exact rfl; exact rfl) | ((with_reducible apply ldAt H 2); exact rfl; exact rfl) | ((with_reducible apply ldAt0 H 2); exact rfl; exact rfl) | ((with_reducible apply stAt H 1); exact rfl; exact rfl; intro h H) | ((with_reducible apply stAt0 H 1); exact rfl; exact rfl; intro h H) | ((with_reducible apply stAt H 2); exact rfl; exact rfl; intro h H) | ((with_reducible apply stAt0 H 2); exact rfl; exact rfl; intro h H) | ((with_reducible refine ⟨?_, ?_⟩); first | ((with_reducible apply ldAt H 1); exact rfl; exact rfl; exact rfl) | ((with_reducible apply ldAt0 H 1); exact rfl; exact rfl; exact rfl) | ((with_reducible apply ldAt H 2); exact rfl; exact rfl; exact rfl) | ((with_reducible apply ldAt0 H 2); exact rfl; exact rfl; exact rfl)))
  exact hR r h ⟨ty, lg, tl, sl, so, z, hz, (H.del 1).mv 1 4⟩
end
end Go.Proofs.YtniojdaddolnfaaGreat

/-
  Layer 10 (group), plain: the bounds of a node and of its messages.
-/
namespace Go.Proofs.YtniojdaddolnfaaGreat

structure BM (m : RM) : Prop where
  f : 0 ≤ m.from_ ∧ m.from_ < 7
  t : 0 ≤ m.to ∧ m.to < 7
  k : 1 ≤ m.kind ∧ m.kind ≤ 6
  i : -1 ≤ m.index ∧ m.index ≤ 2000
  e : m.ents.length ≤ 8
  d : ∀ e ∈ m.ents, e.data.size ≤ 512
structure BN (S o : Nat) (X : RN) : Prop where
  el : X.elect = 4
  be : X.beat = 2
  i : 0 ≤ X.id ∧ X.id < X.n ∧ X.n ≤ 7
  t : 0 ≤ X.term ∧ X.term ≤ 1099511627776
  vt : -1 ≤ X.vote ∧ X.vote < 7
  v : X.votes < 128
  h : X.heard < 128
  s : 0 ≤ X.since ∧ X.since ≤ S
  q : 0 ≤ X.quiet ∧ X.quiet ≤ S
  c : 0 ≤ X.commit
  nx : ∀ t, 0 ≤ X.next t ∧ X.next t ≤ 1025
  mt : ∀ t, 0 ≤ X.matc t ∧ X.matc t ≤ 1024
  l : X.log.length ≤ 1024
  ld : ∀ e ∈ X.log, e.data.size ≤ 512
  f : 0 ≤ X.from_ ∧ X.from_ ≤ 1025
  o : X.out.length ≤ o
  om : ∀ m ∈ X.out, BM m
section
variable {S o : Nat} {X : RN} {m : RM}
theorem BN.up (h : BN S o X) {S' o' : Nat} (h1 : S ≤ S') (h2 : o ≤ o') : BN S' o' X :=
  ⟨h.el, h.be, h.i, h.t, h.vt, h.v, h.h, by have := h.s; omega, by have := h.q; omega, h.c, h.nx, h.mt, h.l, h.ld, h.f, by have := h.o; omega, h.om⟩
theorem BN.rb (h : BN S o X) : RB X := ⟨by have := h.i; omega, h.i.2.2, h.i.1, h.i.2.1, h.nx, h.l⟩
theorem bn_follow (h : BN S o X) {t l : Int} (ht : t ≤ 1099511627776) : BN S o (rFollow X t l) := by
  unfold rFollow
  have := h.t
  split
  · exact ⟨h.el, h.be, h.i, ⟨by show 0 ≤ t; omega, ht⟩, ⟨Int.le_refl _, (by decide : (-1 : Int) < 7)⟩, h.v, h.h, h.s, h.q, h.c, h.nx, h.mt, h.l, h.ld, h.f, h.o, h.om⟩
  · exact ⟨h.el, h.be, h.i, h.t, h.vt, h.v, h.h, h.s, h.q, h.c, h.nx, h.mt, h.l, h.ld, h.f, h.o, h.om⟩
theorem mem_app {P : RM → Prop} {a b : List RM} (h1 : ∀ m ∈ a, P m) (h2 : ∀ m ∈ b, P m) : ∀ m ∈ a ++ b, P m := fun m hm => by
  rcases List.mem_append.1 hm with hm | hm
  · exact h1 m hm
  · exact h2 m hm
theorem bn_send (h : BN S o X) {to : Int} {m : RM} (ht : 0 ≤ to ∧ to < 7) (hk : 1 ≤ m.kind ∧ m.kind ≤ 6) (hi : -1 ≤ m.index ∧ m.index ≤ 2000) (he : m.ents = []) : BN S (o + 1) (rSend X to m) :=
  ⟨h.el, h.be, h.i, h.t, h.vt, h.v, h.h, h.s, h.q, h.c, h.nx, h.mt, h.l, h.ld, h.f, by
    show (X.out ++ [_]).length ≤ _
    rw [List.length_append, List.length_singleton]; have := h.o; omega, mem_app h.om fun x hx => by
    rw [List.mem_singleton.1 hx]
    have := h.i
    exact ⟨by show 0 ≤ X.id ∧ X.id < 7; omega, ht, hk, hi, by show m.ents.length ≤ 8; rw [he]; exact Nat.zero_le _, by show ∀ e ∈ m.ents, _; rw [he]; intro e hx; cases hx⟩⟩
theorem bn_all (h : BN S o X) {m : RM} (hk : 1 ≤ m.kind ∧ m.kind ≤ 6) (hi : -1 ≤ m.index ∧ m.index ≤ 2000) (he : m.ents = []) : BN S (o + 7) (rAll X m) :=
  ⟨h.el, h.be, h.i, h.t, h.vt, h.v, h.h, h.s, h.q, h.c, h.nx, h.mt, h.l, h.ld, h.f, by
    have := rAll_len h.rb m
    have := h.o
    omega, mem_app h.om fun x hx => by
    obtain ⟨t, ht, rfl⟩ := List.mem_map.1 hx
    have ht := mem_others ht
    have := h.i
    exact ⟨by show 0 ≤ X.id ∧ X.id < 7; omega, by show 0 ≤ (t : Int) ∧ (t : Int) < 7; omega, hk, hi, by show m.ents.length ≤ 8; rw [he]; exact Nat.zero_le _, by show ∀ e ∈ m.ents, _; rw [he]; intro e hx; cases hx⟩⟩
theorem fromL_len (es : List RE) (i : Int) : (fromL es i 8).length ≤ 8 := by
  unfold fromL
  rw [List.length_take]; exact Nat.min_le_left _ _
theorem fromL_mem {es : List RE} {i n : Int} {e : RE} (h : e ∈ fromL es i n) : e ∈ es := List.mem_of_mem_drop (List.mem_of_mem_take h)
theorem bm_to (h : BN S o X) {t : Nat} (ht : t < 7) : BM (toMsg X t) := by
  have := h.i
  have := h.nx t
  exact ⟨by show 0 ≤ X.id ∧ X.id < 7; omega, by show 0 ≤ (t : Int) ∧ (t : Int) < 7; omega, ⟨(by decide : (1 : Int) ≤ 5), (by decide : (5 : Int) ≤ 6)⟩, by show -1 ≤ X.next t - 1 ∧ X.next t - 1 ≤ 2000; omega, fromL_len _ _, fun e he => h.ld e (fromL_mem he)⟩
theorem bn_to (h : BN S o X) {t : Nat} (ht : t < 7) : BN S (o + 1) (rTo X t) :=
  ⟨h.el, h.be, h.i, h.t, h.vt, h.v, h.h, h.s, h.q, h.c, h.nx, h.mt, h.l, h.ld, h.f, by
    show (X.out ++ [_]).length ≤ _
    rw [List.length_append, List.length_singleton]; have := h.o; omega, mem_app h.om fun x hx => by
    rw [List.mem_singleton.1 hx]; exact bm_to h ht⟩
theorem bn_toAll (h : BN S o X) : BN S (o + 7) (rToAll X) :=
  ⟨h.el, h.be, h.i, h.t, h.vt, h.v, h.h, ⟨Int.le_refl _, by show (0 : Int) ≤ S; omega⟩, h.q, h.c, h.nx, h.mt, h.l, h.ld, h.f, Nat.le_trans (rToAll_len h.rb) (Nat.add_le_add_right h.o 7), mem_app h.om fun x hx => by
    obtain ⟨t, ht, rfl⟩ := List.mem_map.1 hx
    have ht := mem_others ht
    have := h.i
    exact bm_to h (by omega)⟩
theorem bn_agree (h : BN S o X) : BN S (o + 7) (rAgree X) := by
  unfold rAgree
  split
  · exact h.up (Nat.le_refl _) (by omega)
  · rename_i c hc
    have := agreeAt_some hc
    exact bn_toAll (X := { X with commit := (c : Int) }) ⟨h.el, h.be, h.i, h.t, h.vt, h.v, h.h, h.s, h.q, by show (0 : Int) ≤ c; omega, h.nx, h.mt, h.l, h.ld, h.f, h.o, h.om⟩
theorem bn_dirty (h : BN S o X) {i : Int} (hi : 0 ≤ i ∧ i ≤ 1025) : BN S o (rDirty X i) := by
  unfold rDirty
  refine ⟨h.el, h.be, h.i, h.t, h.vt, h.v, h.h, h.s, h.q, h.c, h.nx, h.mt, h.l, h.ld, ?_, h.o, h.om⟩
  have := h.f
  show 0 ≤ (if X.from_ = 0 ∨ i < X.from_ then i else X.from_) ∧ (if X.from_ = 0 ∨ i < X.from_ then i else X.from_) ≤ 1025
  split <;> omega
theorem bn_add (h : BN S o X) {data : ByteArray} (hd : data.size ≤ 512) : BN S (o + 14) (rAdd X data).1 := by
  unfold rAdd
  split
  · exact h.up (Nat.le_refl _) (by omega)
  split
  · exact h.up (Nat.le_refl _) (by omega)
  · refine bn_agree (o := o + 7) (bn_toAll (bn_dirty ?_ ?_))
    · refine ⟨h.el, h.be, h.i, h.t, h.vt, h.v, h.h, h.s, h.q, h.c, h.nx, h.mt, ?_, fun e he => ?_, h.f, h.o, h.om⟩
      · show (X.log ++ [_]).length ≤ 1024
        rw [List.length_append, List.length_singleton]; omega
      · rcases List.mem_append.1 he with he | he
        · exact h.ld e he
        · rw [List.mem_singleton.1 he]; exact hd
    · have := h.l; omega
theorem bn_leads (h : BN S o X) : BN S (o + 14) (rLeads X) := by
  have h0 : BN S o (rLead0 X) := by
    have hl := h.l
    refine ⟨h.el, h.be, h.i, h.t, h.vt, h.v, (by decide : 0 < 128), ⟨Int.le_refl _, by show (0 : Int) ≤ S; omega⟩, ⟨Int.le_refl _, by show (0 : Int) ≤ S; omega⟩, h.c, fun t => ?_, fun t => ?_, h.l, h.ld, h.f, h.o, h.om⟩
    · have := h.nx t
      show 0 ≤ (if (t : Int) < X.n then (X.log.length : Int) + 1 else X.next t) ∧ (if (t : Int) < X.n then (X.log.length : Int) + 1 else X.next t) ≤ 1025
      split <;> omega
    · have := h.mt t
      show 0 ≤ (if (t : Int) < X.n then 0 else X.matc t) ∧ (if (t : Int) < X.n then 0 else X.matc t) ≤ 1024
      split <;> omega
  have h1 := bn_add h0 (data := ⟨#[]⟩) (by decide)
  unfold rLeads
  split
  · exact bn_follow h1 h1.t.2
  · exact h1
theorem bn_stands (h : BN S o X) (ht : X.term < 1099511627776) : BN S (o + 14) (rStands X) := by
  have h0 : BN S o (rStand0 X) := by
    have := h.t
    have := h.i
    exact ⟨h.el, h.be, h.i, by show 0 ≤ X.term + 1 ∧ X.term + 1 ≤ 1099511627776; omega, by show -1 ≤ X.id ∧ X.id < 7; omega, pow7 (by omega) (by omega), h.h, ⟨Int.le_refl _, by show (0 : Int) ≤ S; omega⟩, h.q, h.c, h.nx, h.mt, h.l, h.ld, h.f, h.o, h.om⟩
  unfold rStands
  have := h.l
  split
  · exact bn_leads h0
  · exact (bn_all h0 ⟨(by decide : (1 : Int) ≤ 3), (by decide : (3 : Int) ≤ 6)⟩ (by show -1 ≤ (X.log.length : Int) ∧ (X.log.length : Int) ≤ 2000; omega) rfl).up (Nat.le_refl _) (by omega)
theorem bn_asks (h : BN S o X) (ht : X.term < 1099511627776) : BN S (o + 14) (rAsks X) := by
  have := h.i
  have h0 : BN S o (rAsk0 X) := ⟨h.el, h.be, h.i, h.t, h.vt, pow7 (by omega) (by omega), h.h, ⟨Int.le_refl _, by show (0 : Int) ≤ S; omega⟩, h.q, h.c, h.nx, h.mt, h.l, h.ld, h.f, h.o, h.om⟩
  unfold rAsks
  have := h.l
  split
  · exact bn_stands h0 ht
  · exact (bn_all h0 ⟨(by decide : (1 : Int) ≤ 1), (by decide : (1 : Int) ≤ 6)⟩ (by show -1 ≤ (X.log.length : Int) ∧ (X.log.length : Int) ≤ 2000; omega) rfl).up (Nat.le_refl _) (by omega)
theorem bn_beat (h : BN S o X) : BN S (o + 7) (rBeat X) := by
  unfold rBeat
  split
  · exact bn_toAll h
  · exact h.up (Nat.le_refl _) (by omega)
theorem bn_tick (h : BN S o X) {draw : Int} : BN (S + 1) (o + 14) (rTick X draw) := by
  have hs := h.s
  have hq := h.q
  have h1 : BN (S + 1) o { X with since := X.since + 1 } := ⟨h.el, h.be, h.i, h.t, h.vt, h.v, h.h, by show 0 ≤ X.since + 1 ∧ X.since + 1 ≤ ((S + 1 : Nat) : Int); omega, by show 0 ≤ X.quiet ∧ X.quiet ≤ ((S + 1 : Nat) : Int); omega, h.c, h.nx, h.mt, h.l, h.ld, h.f, h.o, h.om⟩
  have h2 : BN (S + 1) o { X with since := X.since + 1, quiet := 0, heard := 0 } := ⟨h1.el, h1.be, h1.i, h1.t, h1.vt, h1.v, (by decide : 0 < 128), h1.s, ⟨Int.le_refl _, by show (0 : Int) ≤ ((S + 1 : Nat) : Int); omega⟩, h1.c, h1.nx, h1.mt, h1.l, h1.ld, h1.f, h1.o, h1.om⟩
  unfold rTick
  generalize (if 0 > draw then 0 else draw) % X.elect = dr
  split
  · unfold rLead
    split
    · split
      · have h3 := bn_follow h2 (t := X.term) (l := -1) h.t.2
        have h4 : BN (S + 1) o { rFollow { X with since := X.since + 1, quiet := 0, heard := 0 } X.term (-1) with since := 0 } := ⟨h3.el, h3.be, h3.i, h3.t, h3.vt, h3.v, h3.h, ⟨Int.le_refl _, by show (0 : Int) ≤ ((S + 1 : Nat) : Int); omega⟩, h3.q, h3.c, h3.nx, h3.mt, h3.l, h3.ld, h3.f, h3.o, h3.om⟩
        exact h4.up (Nat.le_refl _) (by omega)
      · exact (bn_beat h2).up (Nat.le_refl _) (by omega)
    · refine (bn_beat (S := S + 1) (o := o) ?_).up (Nat.le_refl _) (by omega)
      exact ⟨h1.el, h1.be, h1.i, h1.t, h1.vt, h1.v, h1.h, h1.s, by show 0 ≤ X.quiet + 1 ∧ X.quiet + 1 ≤ ((S + 1 : Nat) : Int); omega, h1.c, h1.nx, h1.mt, h1.l, h1.ld, h1.f, h1.o, h1.om⟩
  · split
    · rename_i hc; exact bn_asks h1 hc.1
    · exact h1.up (Nat.le_refl _) (by omega)
theorem bn_propose (h : BN S o X) {data : ByteArray} : BN S (o + 14) (rPropose X data).1 := by
  unfold rPropose
  split
  · exact h.up (Nat.le_refl _) (by omega)
  split
  · exact h.up (Nat.le_refl _) (by omega)
  · split <;> exact bn_add h (by omega)
theorem bn_newer (h : BN S o X) (ht : m.term ≤ 1099511627776) : BN S o (rNewer X m) := by
  unfold rNewer
  split
  · exact bn_follow h ht
  · exact h
theorem bn_told (h : BN S o X) {to index : Int} {yes : Bool} (ht : 0 ≤ to ∧ to < 7) (hi : -1 ≤ index ∧ index ≤ 2000) : BN S (o + 1) (rTold X to yes index) :=
  bn_send h ht ⟨(by decide : (1 : Int) ≤ 6), (by decide : (6 : Int) ≤ 6)⟩ hi rfl
theorem bn_votes (h : BN S o X) {v : Nat} (hv : v < 128) : BN S o { X with votes := v } := ⟨h.el, h.be, h.i, h.t, h.vt, hv, h.h, h.s, h.q, h.c, h.nx, h.mt, h.l, h.ld, h.f, h.o, h.om⟩
theorem putR_ok_le {es ys : List RE} {index term : Int} (h : (putR es index term ys).2.2 = 0) : 0 ≤ index ∧ index ≤ es.length := by
  unfold putR at h
  by_cases c1 : (termAt es index).2 = false
  · rw [if_pos c1] at h; exact absurd h (show ¬ (6 : Int) = 0 by decide)
  · unfold termAt at c1
    by_cases e : index < 0 ∨ index > es.length
    · rw [if_pos e] at c1; exact absurd rfl c1
    · omega
theorem bn_step (h : BN S o X) (hm : BM m) (hc1 : X.commit ≤ X.log.length) : BN S (o + 14) (rStepF X m) := by
  have up : ∀ {Y : RN} {p : Nat}, p ≤ 14 → BN S (o + p) Y → BN S (o + 14) Y := fun hp hY => hY.up (Nat.le_refl _) (by omega)
  unfold rStepF
  split
  · exact up (p := 0) (by decide) h
  rename_i hc
  obtain ⟨c1, c2, c3, c4, c5, c6, c7, c8, _, _⟩ := Decidable.not_not.1 hc
  have hi := h.i
  have hl := h.l
  have hmf := hm.f
  split
  · unfold rAskPre
    exact up (p := 1) (by decide) (bn_send h hmf ⟨(by decide : (1 : Int) ≤ 2), (by decide : (2 : Int) ≤ 6)⟩ ⟨(by decide : (-1 : Int) ≤ 0), (by decide : (0 : Int) ≤ 2000)⟩ rfl)
  split
  · unfold rTellPre
    have hv := or7 h.v hmf.1 hmf.2
    split
    · exact up (p := 0) (by decide) (bn_follow h c8)
    split
    · rename_i hr
      split
      · exact bn_stands (bn_votes h hv) (by show X.term < _; omega)
      · exact up (p := 0) (by decide) (bn_votes h hv)
    · exact up (p := 0) (by decide) h
  have h1 := bn_newer (m := m) h c8
  have hlog := (newer_from X m).2
  have hcm : (rNewer X m).commit = X.commit := by unfold rNewer rFollow; split <;> (try split) <;> rfl
  split
  · split
    · exact up (p := 1) (by decide) (bn_told h1 hmf ⟨(by decide : (-1 : Int) ≤ 0), (by decide : (0 : Int) ≤ 2000)⟩)
    · exact up (p := 0) (by decide) h1
  rw [← hlog] at hc1
  rw [← hcm] at hc1
  generalize rNewer X m = Y at h1 hc1 ⊢
  have hl := h1.l
  have hc0 := h1.c
  split
  · unfold rAskVote
    refine up (p := 1) (by decide) (bn_send ?_ hmf ⟨(by decide : (1 : Int) ≤ 4), (by decide : (4 : Int) ≤ 6)⟩ ⟨(by decide : (-1 : Int) ≤ 0), (by decide : (0 : Int) ≤ 2000)⟩ rfl)
    split
    · exact ⟨h1.el, h1.be, h1.i, h1.t, by show -1 ≤ m.from_ ∧ m.from_ < 7; omega, h1.v, h1.h, ⟨Int.le_refl _, by show (0 : Int) ≤ S; omega⟩, h1.q, h1.c, h1.nx, h1.mt, h1.l, h1.ld, h1.f, h1.o, h1.om⟩
    · exact h1
  split
  · unfold rTellVote
    have hv := or7 h1.v hmf.1 hmf.2
    split
    · exact up (p := 0) (by decide) h1
    split
    · exact bn_leads (bn_votes h1 hv)
    · exact up (p := 0) (by decide) (bn_votes h1 hv)
  have hmi := hm.i
  have hme := hm.e
  split
  · unfold rAppend
    have h2 : BN S o (rApp0 Y m) := by
      rw [rApp0_eq]
      exact ⟨h1.el, h1.be, h1.i, h1.t, h1.vt, h1.v, h1.h, ⟨Int.le_refl _, by show (0 : Int) ≤ S; omega⟩, h1.q, h1.c, h1.nx, h1.mt, h1.l, h1.ld, h1.f, h1.o, h1.om⟩
    split
    · exact up (p := 0) (by decide) h1
    split
    · exact up (p := 1) (by decide) (bn_told h2 hmf (by omega))
    split
    · refine up (p := 1) (by decide) (bn_told h2 hmf ?_)
      unfold mx mn
      split <;> split <;> omega
    · rename_i hok
      have := putR_ok_le (Decidable.not_not.1 hok)
      refine up (p := 1) (by decide) (bn_told ?_ hmf (by omega))
      rw [rApp0_eq] at h2 ⊢
      have h3 : BN S o (rPut { Y with role := 0, leader := m.from_, since := 0 } m) := by
        unfold rPut
        split
        · rename_i hp
          obtain ⟨p, q1, q2, q3, q4, q5, q6⟩ := putR_new hp
          refine bn_dirty ?_ (by rw [q1]; have : (Y.log.length : Int) ≤ 1024 := by omega
                                 have q2 : p ≤ Y.log.length := q2
                                 omega)
          refine ⟨h2.el, h2.be, h2.i, h2.t, h2.vt, h2.v, h2.h, h2.s, h2.q, h2.c, h2.nx, h2.mt, q5, fun e he => ?_, h2.f, h2.o, h2.om⟩
          rcases q6 e he with x | x
          · exact h1.ld e x
          · exact hm.d e x
        · rename_i hp
          rw [putR_old hp]
          exact h2
      refine ⟨h3.el, h3.be, h3.i, h3.t, h3.vt, h3.v, h3.h, h3.s, h3.q, ?_, h3.nx, h3.mt, h3.l, h3.ld, h3.f, h3.o, h3.om⟩
      show 0 ≤ mx Y.commit _
      unfold mx
      split <;> omega
  · unfold rHears
    have hk : m.from_.toNat < 7 := by omega
    have hh := or7 h1.h hmf.1 hmf.2
    split
    · exact up (p := 0) (by decide) h1
    split
    · rename_i hcd
      have hmk := h1.mt m.from_.toNat
      have h2 : BN S o (rHear1 Y m.from_.toNat m.index) := by
        refine ⟨h1.el, h1.be, h1.i, h1.t, h1.vt, h1.v, hh, h1.s, h1.q, h1.c, fun t => ?_, fun t => ?_, h1.l, h1.ld, h1.f, h1.o, h1.om⟩
        · have := h1.nx t
          show 0 ≤ upd Y.next m.from_.toNat (mx (Y.matc m.from_.toNat) m.index + 1) t ∧ upd Y.next m.from_.toNat (mx (Y.matc m.from_.toNat) m.index + 1) t ≤ 1025
          unfold upd mx
          split
          · split <;> omega
          · exact this
        · have := h1.mt t
          show 0 ≤ upd Y.matc m.from_.toNat (mx (Y.matc m.from_.toNat) m.index) t ∧ upd Y.matc m.from_.toNat (mx (Y.matc m.from_.toNat) m.index) t ≤ 1024
          unfold upd mx
          split
          · split <;> omega
          · exact this
      have h3 := bn_agree h2
      split
      · exact up (p := 8) (by decide) (bn_to h3 hk)
      · exact up (p := 7) (by decide) h3
    split
    · have hmk := h1.mt m.from_.toNat
      have hnk := h1.nx m.from_.toNat
      have h2 : BN S o (rHear2 Y m.from_.toNat m.index) := by
        refine ⟨h1.el, h1.be, h1.i, h1.t, h1.vt, h1.v, hh, h1.s, h1.q, h1.c, fun t => ?_, h1.mt, h1.l, h1.ld, h1.f, h1.o, h1.om⟩
        have := h1.nx t
        show 0 ≤ upd Y.next m.from_.toNat (mx (mn (mn (mx m.index 0) Y.log.length + 1) (Y.next m.from_.toNat - 1)) (Y.matc m.from_.toNat + 1)) t ∧ upd Y.next m.from_.toNat (mx (mn (mn (mx m.index 0) Y.log.length + 1) (Y.next m.from_.toNat - 1)) (Y.matc m.from_.toNat + 1)) t ≤ 1025
        unfold upd
        split
        · have e1 : 0 ≤ mn (mx m.index 0) (Y.log.length : Int) ∧ mn (mx m.index 0) (Y.log.length : Int) ≤ 1024 := by
            unfold mn mx
            repeat' split
            all_goals omega
          generalize mn (mx m.index 0) (Y.log.length : Int) = q at *
          have e2 : mn (q + 1) (Y.next m.from_.toNat - 1) ≤ 1025 := by unfold mn; split <;> omega
          generalize mn (q + 1) (Y.next m.from_.toNat - 1) = r at *
          unfold mx
          split <;> omega
        · exact this
      exact up (p := 1) (by decide) (bn_to h2 hk)
    · exact up (p := 0) (by decide) ⟨h1.el, h1.be, h1.i, h1.t, h1.vt, h1.v, hh, h1.s, h1.q, h1.c, h1.nx, h1.mt, h1.l, h1.ld, h1.f, h1.o, h1.om⟩
end
end Go.Proofs.YtniojdaddolnfaaGreat
