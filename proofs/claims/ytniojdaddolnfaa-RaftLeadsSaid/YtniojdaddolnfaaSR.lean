/- Printed by a program: what each function asks of the heap, that this is the reading of its code, and what follows for a call. -/
import Derived.Test.YtniojdaddolnfaaSC
import Derived.Test.YtniojdaddolnfaaVg
import Derived.Test.YtniojdaddolnfaaProg
set_option maxRecDepth 1000000
namespace Go.Proofs.Ytniojdaddolnfaa
open Go

theorem useG_SR {an : List (Nat × Slots)} {f : FuncId} {fn : Func} {args : List Value} {h : Heap} {ss : List Sh} {R : TH (Heap → Prop) ss} {S : Prop} (hf : Try.prog.funcs[f]? = some fn) (hb : codeOk fn args.length = true) (e : VG Try.prog an fn args h ss R = S) (hs : S) : CallR Try.prog f args h ss R := VG_sound (an := an) mixed_ hf hb (cast e.symm hs)
/-- raft.New -/
def S_raft_New (id : Int) (n : Int) (elect : Int) (beat : Int) (s : KL [.int .i64, .int .i64, .sl]) (h : Heap) (R : Option Addr → Int → Heap → Prop) : Prop :=
  Alloc h (.cells #[.int .i64 s.1, .int .i64 s.2.1, .slice s.2.2.1.a s.2.2.1.n s.2.2.1.c] 32) fun s1 h_ =>
  Join [] (fun _ h_1 =>
    Ld (.int .i64) h_1 s1 fun (Term : Int) =>
    Ld (.int .i64) h_1 (s1.add 1) fun (Vote : Int) =>
    Ld .sl h_1 (s1.add 2) fun (Entries : Sl) =>
    C_log_New Entries h_1 fun (r : Option Addr) h_2 =>
    (Ld (.int .i64) h_2 s1 fun (Term1 : Int) => (.int .i64 Term1 : Value) = .int .i64 Term) ∧
    (Ld (.int .i64) h_2 (s1.add 1) fun (Vote1 : Int) => (.int .i64 Vote1 : Value) = .int .i64 Vote) ∧
    Alloc h_2 (.cells #[.int .i64 id, .int .i64 n, .int .i64 elect, .int .i64 beat, .int .i64 Term, .int .i64 Vote, .int .i64 0, .int .i64 (-1), .int .i64 0, .int .i64 0, .int .i64 0, .pointer r, .int .u64 0, .int .u64 0, .int .i64 0, .int .i64 0, .int .i64 0, .int .i64 0, .int .i64 0, .int .i64 0, .int .i64 0, .int .i64 0, .int .i64 0, .int .i64 0, .int .i64 0, .int .i64 0, .int .i64 0, .int .i64 0, .slice none 0 0, .bool false, .int .i64 0] 63) fun p h_3 =>
    R (some p) 0 h_3
    ) fun J =>
  (bif decide (n < 1) then
    R none 1 h_
  else
    (bif decide (n > 7) then
      R none 1 h_
    else
      (bif decide (id < 0) then
        R none 1 h_
      else
        (bif decide (id ≥ n) then
          R none 1 h_
        else
          (bif decide (elect < 1) then
            R none 1 h_
          else
            (bif decide (elect > 1000) then
              R none 1 h_
            else
              (bif decide (beat < 1) then
                R none 1 h_
              else
                (bif decide (beat > elect) then
                  R none 1 h_
                else
                  Ld (.int .i64) h_ s1 fun (x_Term : Int) =>
                  Ld (.int .i64) h_ (s1.add 1) fun (x_Vote : Int) =>
                  Ld .sl h_ (s1.add 2) fun (x_Entries : Sl) =>
                  C_raft_right (x_Term, x_Vote, x_Entries, ()) h_ fun (r1 : Bool) h_4 =>
                  (bif !r1 then
                    R none 2 h_4
                  else
                    J  h_4
                  )
                )
              )
            )
          )
        )
      )
    )
  )
theorem E_raft_New (id : Int) (n : Int) (elect : Int) (beat : Int) (s : KL [.int .i64, .int .i64, .sl]) (h : Heap) (R : Option Addr → Int → Heap → Prop) :
    VF Try.prog [(6, [])] Try.f7 [.int .i64 id, .int .i64 n, .int .i64 elect, .int .i64 beat, .agg ⟨KL.vals [.int .i64, .int .i64, .sl] s⟩] h [.one .ptr, .one (.int .i64)] R = S_raft_New id n elect beat s h R := by kernel_rfl
theorem A_raft_New {id : Int} {n : Int} {elect : Int} {beat : Int} {s : KL [.int .i64, .int .i64, .sl]} {h : Heap} {R : Option Addr → Int → Heap → Prop} (hs : S_raft_New id n elect beat s h R) : C_raft_New id n elect beat s h R :=
  use_ Try.func7 (by kernel_rfl) (E_raft_New id n elect beat s h R) hs

/-- (*raft.Node).Role -/
def S_raft_Node_Role (x : Option Addr) (h : Heap) (R : Int → Heap → Prop) : Prop :=
  (bif x.isNone then
    R 0 h
  else
    Nn x fun p =>
    Ld (.int .i64) h (p.add 6) fun (role : Int) =>
    R role h
  )
theorem E_raft_Node_Role (x : Option Addr) (h : Heap) (R : Int → Heap → Prop) :
    VF Try.prog [] Try.f8 [.pointer x] h [.one (.int .i64)] R = S_raft_Node_Role x h R := by kernel_rfl
theorem A_raft_Node_Role {x : Option Addr} {h : Heap} {R : Int → Heap → Prop} (hs : S_raft_Node_Role x h R) : C_raft_Node_Role x h R :=
  use_ Try.func8 (by kernel_rfl) (E_raft_Node_Role x h R) hs

/-- (*raft.Node).Term -/
def S_raft_Node_Term (x : Option Addr) (h : Heap) (R : Int → Heap → Prop) : Prop :=
  (bif x.isNone then
    R 0 h
  else
    Nn x fun p =>
    Ld (.int .i64) h (p.add 4) fun (term : Int) =>
    R term h
  )
theorem E_raft_Node_Term (x : Option Addr) (h : Heap) (R : Int → Heap → Prop) :
    VF Try.prog [] Try.f9 [.pointer x] h [.one (.int .i64)] R = S_raft_Node_Term x h R := by kernel_rfl
theorem A_raft_Node_Term {x : Option Addr} {h : Heap} {R : Int → Heap → Prop} (hs : S_raft_Node_Term x h R) : C_raft_Node_Term x h R :=
  use_ Try.func9 (by kernel_rfl) (E_raft_Node_Term x h R) hs

/-- (*raft.Node).Tick -/
def S_raft_Node_Tick (x : Option Addr) (draw : Int) (h : Heap) (R : Heap → Prop) : Prop :=
  (bif x.isNone then
    R h
  else
    Nn x fun p =>
    Ld (.int .i64) h (p.add 8) fun (since : Int) =>
    Nn x fun p1 =>
    St h (p1.add 8) (.int .i64 (IntKind.i64.wrap (since + 1))) fun h_ =>
    Nn x fun p2 =>
    Ld (.int .i64) h_ (p2.add 6) fun (role : Int) =>
    (bif role == 3 then
      C_raft_Node_lead x h_ fun h_1 =>
      R h_1
    else
      Nn x fun p3 =>
      Ld (.int .i64) h_ (p3.add 4) fun (term : Int) =>
      (bif decide (term < 1099511627776) then
        Nn x fun p4 =>
        Ld (.int .i64) h_ (p4.add 8) fun (since1 : Int) =>
        Nn x fun p5 =>
        Ld (.int .i64) h_ (p5.add 2) fun (elect : Int) =>
        Nn x fun p6 =>
        Ld (.int .i64) h_ (p6.add 2) fun (elect1 : Int) =>
        Nz elect1 (
        (bif decide (since1 ≥ (IntKind.i64.wrap (elect + (divV .rem .i64 (if 0 > draw then 0 else draw) elect1)))) then
          C_raft_Node_asks x h_ fun h_2 =>
          R h_2
        else
          R h_
        )
        )
      else
        R h_
      )
    )
  )
theorem E_raft_Node_Tick (x : Option Addr) (draw : Int) (h : Heap) (R : Heap → Prop) :
    VF Try.prog [] Try.f10 [.pointer x, .int .i64 draw] h [] R = S_raft_Node_Tick x draw h R := by kernel_rfl
theorem A_raft_Node_Tick {x : Option Addr} {draw : Int} {h : Heap} {R : Heap → Prop} (hs : S_raft_Node_Tick x draw h R) : C_raft_Node_Tick x draw h R :=
  use_ Try.func10 (by kernel_rfl) (E_raft_Node_Tick x draw h R) hs

/-- (*raft.Node).Propose -/
def S_raft_Node_Propose (x : Option Addr) (data : ByteArray) (h : Heap) (R : Int → Int → Heap → Prop) : Prop :=
  (bif x.isNone then
    R 0 1 h
  else
    Nn x fun p =>
    Ld (.int .i64) h (p.add 6) fun (role : Int) =>
    (bif role != 3 then
      R 0 13 h
    else
      (bif decide ((data.size : Int) > 512) then
        R 0 4 h
      else
        C_raft_Node_add x data h fun (r : Int) h_ =>
        (bif r != 0 then
          R 0 r h_
        else
          C_raft_Node_Last x h_ fun (r1 : Int) h_1 =>
          R r1 0 h_1
        )
      )
    )
  )
theorem E_raft_Node_Propose (x : Option Addr) (data : ByteArray) (h : Heap) (R : Int → Int → Heap → Prop) :
    VF Try.prog [] Try.f11 [.pointer x, .string data] h [.one (.int .i64), .one (.int .i64)] R = S_raft_Node_Propose x data h R := by kernel_rfl
theorem A_raft_Node_Propose {x : Option Addr} {data : ByteArray} {h : Heap} {R : Int → Int → Heap → Prop} (hs : S_raft_Node_Propose x data h R) : C_raft_Node_Propose x data h R :=
  use_ Try.func11 (by kernel_rfl) (E_raft_Node_Propose x data h R) hs

/-- (*raft.Node).Committed -/
def S_raft_Node_Committed (x : Option Addr) (from_ : Int) (h : Heap) (R : Sl → Heap → Prop) : Prop :=
  (bif x.isNone then
    R ⟨none, 0, 0⟩ h
  else
    Let (if 1 > from_ then 1 else from_ : Int) fun from_1 =>
    Nn x fun p =>
    Ld (.int .i64) h (p.add 10) fun (commit : Int) =>
    (bif decide (from_1 > commit) then
      R ⟨none, 0, 0⟩ h
    else
      Nn x fun p1 =>
      Ld .ptr h (p1.add 11) fun (log : Option Addr) =>
      Nn x fun p2 =>
      Ld (.int .i64) h (p2.add 10) fun (commit1 : Int) =>
      C_log_Log_From log from_1 (IntKind.i64.wrap ((IntKind.i64.wrap (commit1 - from_1)) + 1)) h fun (r : Sl) h_ =>
      R r h_
    )
  )
theorem E_raft_Node_Committed (x : Option Addr) (from_ : Int) (h : Heap) (R : Sl → Heap → Prop) :
    VF Try.prog [] Try.f12 [.pointer x, .int .i64 from_] h [.one .sl] R = S_raft_Node_Committed x from_ h R := by kernel_rfl
theorem A_raft_Node_Committed {x : Option Addr} {from_ : Int} {h : Heap} {R : Sl → Heap → Prop} (hs : S_raft_Node_Committed x from_ h R) : C_raft_Node_Committed x from_ h R :=
  use_ Try.func12 (by kernel_rfl) (E_raft_Node_Committed x from_ h R) hs

/-- (*raft.Node).Commit -/
def S_raft_Node_Commit (x : Option Addr) (h : Heap) (R : Int → Heap → Prop) : Prop :=
  (bif x.isNone then
    R 0 h
  else
    Nn x fun p =>
    Ld (.int .i64) h (p.add 10) fun (commit : Int) =>
    R commit h
  )
theorem E_raft_Node_Commit (x : Option Addr) (h : Heap) (R : Int → Heap → Prop) :
    VF Try.prog [] Try.f13 [.pointer x] h [.one (.int .i64)] R = S_raft_Node_Commit x h R := by kernel_rfl
theorem A_raft_Node_Commit {x : Option Addr} {h : Heap} {R : Int → Heap → Prop} (hs : S_raft_Node_Commit x h R) : C_raft_Node_Commit x h R :=
  use_ Try.func13 (by kernel_rfl) (E_raft_Node_Commit x h R) hs

/-- (*raft.Node).Out -/
def S_raft_Node_Out (x : Option Addr) (h : Heap) (R : Sl → Heap → Prop) : Prop :=
  (bif x.isNone then
    R ⟨none, 0, 0⟩ h
  else
    Nn x fun p =>
    Ld .sl h (p.add 28) fun (out : Sl) =>
    Nn x fun p1 =>
    St h (p1.add 28) (.slice none 0 0) fun h_ =>
    R out h_
  )
theorem E_raft_Node_Out (x : Option Addr) (h : Heap) (R : Sl → Heap → Prop) :
    VF Try.prog [] Try.f14 [.pointer x] h [.one .sl] R = S_raft_Node_Out x h R := by kernel_rfl
theorem A_raft_Node_Out {x : Option Addr} {h : Heap} {R : Sl → Heap → Prop} (hs : S_raft_Node_Out x h R) : C_raft_Node_Out x h R :=
  use_ Try.func14 (by kernel_rfl) (E_raft_Node_Out x h R) hs

/-- (*raft.Node).Leader -/
def S_raft_Node_Leader (x : Option Addr) (h : Heap) (R : Int → Heap → Prop) : Prop :=
  (bif x.isNone then
    R (-1) h
  else
    Nn x fun p =>
    Ld (.int .i64) h (p.add 7) fun (leader : Int) =>
    R leader h
  )
theorem E_raft_Node_Leader (x : Option Addr) (h : Heap) (R : Int → Heap → Prop) :
    VF Try.prog [] Try.f15 [.pointer x] h [.one (.int .i64)] R = S_raft_Node_Leader x h R := by kernel_rfl
theorem A_raft_Node_Leader {x : Option Addr} {h : Heap} {R : Int → Heap → Prop} (hs : S_raft_Node_Leader x h R) : C_raft_Node_Leader x h R :=
  use_ Try.func15 (by kernel_rfl) (E_raft_Node_Leader x h R) hs

/-- (*raft.Node).Step -/
def S_raft_Node_Step (x : Option Addr) (m : KL [.int .i64, .int .i64, .int .i64, .int .i64, .int .i64, .int .i64, .int .i64, .bool, .sl]) (h : Heap) (R : Heap → Prop) : Prop :=
  Alloc h (.cells #[.int .i64 m.1, .int .i64 m.2.1, .int .i64 m.2.2.1, .int .i64 m.2.2.2.1, .int .i64 m.2.2.2.2.1, .int .i64 m.2.2.2.2.2.1, .int .i64 m.2.2.2.2.2.2.1, .bool m.2.2.2.2.2.2.2.1, .slice m.2.2.2.2.2.2.2.2.1.a m.2.2.2.2.2.2.2.2.1.n m.2.2.2.2.2.2.2.2.1.c] 47) fun m1 h_ =>
  Join [.one .bool] (fun _ (x11 : Bool) h_1 =>
    (bif x11 then
      R h_1
    else
      Ld (.int .i64) h_1 m1 fun (Kind : Int) =>
      (bif Kind == 1 then
        Ld (.int .i64) h_1 m1 fun (x_Kind : Int) =>
        Ld (.int .i64) h_1 (m1.add 1) fun (x_From : Int) =>
        Ld (.int .i64) h_1 (m1.add 2) fun (x_To : Int) =>
        Ld (.int .i64) h_1 (m1.add 3) fun (x_Term : Int) =>
        Ld (.int .i64) h_1 (m1.add 4) fun (x_Index : Int) =>
        Ld (.int .i64) h_1 (m1.add 5) fun (x_LogTerm : Int) =>
        Ld (.int .i64) h_1 (m1.add 6) fun (x_Commit : Int) =>
        Ld .bool h_1 (m1.add 7) fun (x_Yes : Bool) =>
        Ld .sl h_1 (m1.add 8) fun (x_Entries : Sl) =>
        C_raft_Node_askPre x (x_Kind, x_From, x_To, x_Term, x_Index, x_LogTerm, x_Commit, x_Yes, x_Entries, ()) h_1 fun h_2 =>
        R h_2
      else
        (bif Kind == 2 then
          Ld (.int .i64) h_1 m1 fun (x_Kind1 : Int) =>
          Ld (.int .i64) h_1 (m1.add 1) fun (x_From1 : Int) =>
          Ld (.int .i64) h_1 (m1.add 2) fun (x_To1 : Int) =>
          Ld (.int .i64) h_1 (m1.add 3) fun (x_Term1 : Int) =>
          Ld (.int .i64) h_1 (m1.add 4) fun (x_Index1 : Int) =>
          Ld (.int .i64) h_1 (m1.add 5) fun (x_LogTerm1 : Int) =>
          Ld (.int .i64) h_1 (m1.add 6) fun (x_Commit1 : Int) =>
          Ld .bool h_1 (m1.add 7) fun (x_Yes1 : Bool) =>
          Ld .sl h_1 (m1.add 8) fun (x_Entries1 : Sl) =>
          C_raft_Node_tellPre x (x_Kind1, x_From1, x_To1, x_Term1, x_Index1, x_LogTerm1, x_Commit1, x_Yes1, x_Entries1, ()) h_1 fun h_3 =>
          R h_3
        else
          Ld (.int .i64) h_1 (m1.add 3) fun (Term : Int) =>
          Nn x fun p =>
          Ld (.int .i64) h_1 (p.add 4) fun (term : Int) =>
          Join [] (fun _ h_4 =>
            Ld (.int .i64) h_4 (m1.add 3) fun (Term1 : Int) =>
            Nn x fun p1 =>
            Ld (.int .i64) h_4 (p1.add 4) fun (term1 : Int) =>
            (bif decide (Term1 < term1) then
              Ld (.int .i64) h_4 m1 fun (Kind1 : Int) =>
              (bif Kind1 == 5 then
                Ld (.int .i64) h_4 (m1.add 1) fun (From : Int) =>
                C_raft_Node_told x From false 0 h_4 fun h_5 =>
                R h_5
              else
                R h_4
              )
            else
              Ld (.int .i64) h_4 m1 fun (Kind2 : Int) =>
              (bif Kind2 == 3 then
                Ld (.int .i64) h_4 m1 fun (x_Kind2 : Int) =>
                Ld (.int .i64) h_4 (m1.add 1) fun (x_From2 : Int) =>
                Ld (.int .i64) h_4 (m1.add 2) fun (x_To2 : Int) =>
                Ld (.int .i64) h_4 (m1.add 3) fun (x_Term2 : Int) =>
                Ld (.int .i64) h_4 (m1.add 4) fun (x_Index2 : Int) =>
                Ld (.int .i64) h_4 (m1.add 5) fun (x_LogTerm2 : Int) =>
                Ld (.int .i64) h_4 (m1.add 6) fun (x_Commit2 : Int) =>
                Ld .bool h_4 (m1.add 7) fun (x_Yes2 : Bool) =>
                Ld .sl h_4 (m1.add 8) fun (x_Entries2 : Sl) =>
                C_raft_Node_askVote x (x_Kind2, x_From2, x_To2, x_Term2, x_Index2, x_LogTerm2, x_Commit2, x_Yes2, x_Entries2, ()) h_4 fun h_6 =>
                R h_6
              else
                Ld (.int .i64) h_4 m1 fun (Kind3 : Int) =>
                (bif Kind3 == 4 then
                  Ld (.int .i64) h_4 m1 fun (x_Kind3 : Int) =>
                  Ld (.int .i64) h_4 (m1.add 1) fun (x_From3 : Int) =>
                  Ld (.int .i64) h_4 (m1.add 2) fun (x_To3 : Int) =>
                  Ld (.int .i64) h_4 (m1.add 3) fun (x_Term3 : Int) =>
                  Ld (.int .i64) h_4 (m1.add 4) fun (x_Index3 : Int) =>
                  Ld (.int .i64) h_4 (m1.add 5) fun (x_LogTerm3 : Int) =>
                  Ld (.int .i64) h_4 (m1.add 6) fun (x_Commit3 : Int) =>
                  Ld .bool h_4 (m1.add 7) fun (x_Yes3 : Bool) =>
                  Ld .sl h_4 (m1.add 8) fun (x_Entries3 : Sl) =>
                  C_raft_Node_tellVote x (x_Kind3, x_From3, x_To3, x_Term3, x_Index3, x_LogTerm3, x_Commit3, x_Yes3, x_Entries3, ()) h_4 fun h_7 =>
                  R h_7
                else
                  Ld (.int .i64) h_4 m1 fun (Kind4 : Int) =>
                  (bif Kind4 == 5 then
                    Ld (.int .i64) h_4 m1 fun (x_Kind4 : Int) =>
                    Ld (.int .i64) h_4 (m1.add 1) fun (x_From4 : Int) =>
                    Ld (.int .i64) h_4 (m1.add 2) fun (x_To4 : Int) =>
                    Ld (.int .i64) h_4 (m1.add 3) fun (x_Term4 : Int) =>
                    Ld (.int .i64) h_4 (m1.add 4) fun (x_Index4 : Int) =>
                    Ld (.int .i64) h_4 (m1.add 5) fun (x_LogTerm4 : Int) =>
                    Ld (.int .i64) h_4 (m1.add 6) fun (x_Commit4 : Int) =>
                    Ld .bool h_4 (m1.add 7) fun (x_Yes4 : Bool) =>
                    Ld .sl h_4 (m1.add 8) fun (x_Entries4 : Sl) =>
                    C_raft_Node_append x (x_Kind4, x_From4, x_To4, x_Term4, x_Index4, x_LogTerm4, x_Commit4, x_Yes4, x_Entries4, ()) h_4 fun h_8 =>
                    R h_8
                  else
                    Ld (.int .i64) h_4 m1 fun (x_Kind5 : Int) =>
                    Ld (.int .i64) h_4 (m1.add 1) fun (x_From5 : Int) =>
                    Ld (.int .i64) h_4 (m1.add 2) fun (x_To5 : Int) =>
                    Ld (.int .i64) h_4 (m1.add 3) fun (x_Term5 : Int) =>
                    Ld (.int .i64) h_4 (m1.add 4) fun (x_Index5 : Int) =>
                    Ld (.int .i64) h_4 (m1.add 5) fun (x_LogTerm5 : Int) =>
                    Ld (.int .i64) h_4 (m1.add 6) fun (x_Commit5 : Int) =>
                    Ld .bool h_4 (m1.add 7) fun (x_Yes5 : Bool) =>
                    Ld .sl h_4 (m1.add 8) fun (x_Entries5 : Sl) =>
                    C_raft_Node_hears x (x_Kind5, x_From5, x_To5, x_Term5, x_Index5, x_LogTerm5, x_Commit5, x_Yes5, x_Entries5, ()) h_4 fun h_9 =>
                    R h_9
                  )
                )
              )
            )
            ) fun J1 =>
          (bif decide (Term > term) then
            Ld (.int .i64) h_1 (m1.add 3) fun (Term2 : Int) =>
            C_raft_Node_follow x Term2 (-1) h_1 fun h_10 =>
            J1  h_10
          else
            J1  h_1
          )
        )
      )
    )
    ) fun J =>
  (bif x.isNone then
    J true h_
  else
    Ld (.int .i64) h_ m1 fun (x_Kind6 : Int) =>
    Ld (.int .i64) h_ (m1.add 1) fun (x_From6 : Int) =>
    Ld (.int .i64) h_ (m1.add 2) fun (x_To6 : Int) =>
    Ld (.int .i64) h_ (m1.add 3) fun (x_Term6 : Int) =>
    Ld (.int .i64) h_ (m1.add 4) fun (x_Index6 : Int) =>
    Ld (.int .i64) h_ (m1.add 5) fun (x_LogTerm6 : Int) =>
    Ld (.int .i64) h_ (m1.add 6) fun (x_Commit6 : Int) =>
    Ld .bool h_ (m1.add 7) fun (x_Yes6 : Bool) =>
    Ld .sl h_ (m1.add 8) fun (x_Entries6 : Sl) =>
    C_raft_Node_counts x (x_Kind6, x_From6, x_To6, x_Term6, x_Index6, x_LogTerm6, x_Commit6, x_Yes6, x_Entries6, ()) h_ fun (r : Bool) h_11 =>
    J (!r) h_11
  )
theorem E_raft_Node_Step (x : Option Addr) (m : KL [.int .i64, .int .i64, .int .i64, .int .i64, .int .i64, .int .i64, .int .i64, .bool, .sl]) (h : Heap) (R : Heap → Prop) :
    VF Try.prog [(12, [(11, .one .bool)]), (61, [])] Try.f17 [.pointer x, .agg ⟨KL.vals [.int .i64, .int .i64, .int .i64, .int .i64, .int .i64, .int .i64, .int .i64, .bool, .sl] m⟩] h [] R = S_raft_Node_Step x m h R := by kernel_rfl
theorem A_raft_Node_Step {x : Option Addr} {m : KL [.int .i64, .int .i64, .int .i64, .int .i64, .int .i64, .int .i64, .int .i64, .bool, .sl]} {h : Heap} {R : Heap → Prop} (hs : S_raft_Node_Step x m h R) : C_raft_Node_Step x m h R :=
  use_ Try.func17 (by kernel_rfl) (E_raft_Node_Step x m h R) hs

/-- (*raft.Node).Last -/
def S_raft_Node_Last (x : Option Addr) (h : Heap) (R : Int → Heap → Prop) : Prop :=
  (bif x.isNone then
    R 0 h
  else
    Nn x fun p =>
    Ld .ptr h (p.add 11) fun (log : Option Addr) =>
    C_log_Log_Last log h fun (r : Int) (r1 : Int) h_ =>
    R r h_
  )
theorem E_raft_Node_Last (x : Option Addr) (h : Heap) (R : Int → Heap → Prop) :
    VF Try.prog [] Try.f18 [.pointer x] h [.one (.int .i64)] R = S_raft_Node_Last x h R := by kernel_rfl
theorem A_raft_Node_Last {x : Option Addr} {h : Heap} {R : Int → Heap → Prop} (hs : S_raft_Node_Last x h R) : C_raft_Node_Last x h R :=
  use_ Try.func18 (by kernel_rfl) (E_raft_Node_Last x h R) hs

/-- (*raft.Node).State -/
def S_raft_Node_State (x : Option Addr) (h : Heap) (R : KL [.int .i64, .int .i64, .sl] → Heap → Prop) : Prop :=
  Alloc h (.cells #[.int .i64 0, .int .i64 0, .slice none 0 0] 32) fun p h_ =>
  (bif x.isNone then
    St h_ p (.int .i64 0) fun h_1 =>
    St h_1 (p.add 1) (.int .i64 0) fun h_2 =>
    St h_2 (p.add 2) (.slice none 0 0) fun h_3 =>
    Ld (.int .i64) h_3 p fun (r_0 : Int) =>
    Ld (.int .i64) h_3 (p.add 1) fun (r_1 : Int) =>
    Ld .sl h_3 (p.add 2) fun (r_2 : Sl) =>
    R (r_0, r_1, r_2, ()) h_3
  else
    Nn x fun p1 =>
    Ld (.int .i64) h_ (p1.add 4) fun (term : Int) =>
    Nn x fun p2 =>
    Ld (.int .i64) h_ (p2.add 5) fun (vote : Int) =>
    Nn x fun p3 =>
    Ld .ptr h_ (p3.add 11) fun (log : Option Addr) =>
    C_log_Log_All log h_ fun (r : Sl) h_4 =>
    (Ld (.int .i64) h_4 (p1.add 4) fun (term1 : Int) => (.int .i64 term1 : Value) = .int .i64 term) ∧
    (Ld (.int .i64) h_4 (p2.add 5) fun (vote1 : Int) => (.int .i64 vote1 : Value) = .int .i64 vote) ∧
    St h_4 p (.int .i64 term) fun h_5 =>
    St h_5 (p.add 1) (.int .i64 vote) fun h_6 =>
    St h_6 (p.add 2) (.slice r.a r.n r.c) fun h_7 =>
    Ld (.int .i64) h_7 p fun (r_01 : Int) =>
    Ld (.int .i64) h_7 (p.add 1) fun (r_11 : Int) =>
    Ld .sl h_7 (p.add 2) fun (r_21 : Sl) =>
    R (r_01, r_11, r_21, ()) h_7
  )
theorem E_raft_Node_State (x : Option Addr) (h : Heap) (R : KL [.int .i64, .int .i64, .sl] → Heap → Prop) :
    VG Try.prog [] Try.f19 [.pointer x] h [.agg [.int .i64, .int .i64, .sl]] R = S_raft_Node_State x h R := by kernel_rfl
theorem A_raft_Node_State {x : Option Addr} {h : Heap} {R : KL [.int .i64, .int .i64, .sl] → Heap → Prop} (hs : S_raft_Node_State x h R) : C_raft_Node_State x h R :=
  useG_SR Try.func19 (by kernel_rfl) (E_raft_Node_State x h R) hs

/-- (*raft.Node).Save -/
def S_raft_Node_Save (x : Option Addr) (h : Heap) (R : KL [.bool, .int .i64, .int .i64, .int .i64, .sl] → Bool → Heap → Prop) : Prop :=
  Alloc h (.cells #[.bool false, .int .i64 0, .int .i64 0, .int .i64 0, .slice none 0 0] 55) fun p h_ =>
  Join [.one .bool] (fun _ (x20 : Bool) h_1 =>
    (bif x20 then
      St h_1 p (.bool false) fun h_2 =>
      St h_2 (p.add 1) (.int .i64 0) fun h_3 =>
      St h_3 (p.add 2) (.int .i64 0) fun h_4 =>
      St h_4 (p.add 3) (.int .i64 0) fun h_5 =>
      St h_5 (p.add 4) (.slice none 0 0) fun h_6 =>
      Ld .bool h_6 p fun (r_0 : Bool) =>
      Ld (.int .i64) h_6 (p.add 1) fun (r_1 : Int) =>
      Ld (.int .i64) h_6 (p.add 2) fun (r_2 : Int) =>
      Ld (.int .i64) h_6 (p.add 3) fun (r_3 : Int) =>
      Ld .sl h_6 (p.add 4) fun (r_4 : Sl) =>
      R (r_0, r_1, r_2, r_3, r_4, ()) false h_6
    else
      Nn x fun p1 =>
      Ld .bool h_1 (p1.add 29) fun (hard : Bool) =>
      Nn x fun p2 =>
      Ld (.int .i64) h_1 (p2.add 4) fun (term : Int) =>
      Nn x fun p3 =>
      Ld (.int .i64) h_1 (p3.add 5) fun (vote : Int) =>
      Alloc h_1 (.cells #[.bool false, .int .i64 0, .int .i64 0, .int .i64 0, .slice none 0 0] 55) fun s h_7 =>
      (Ld .bool h_7 (p1.add 29) fun (hard1 : Bool) => (.bool hard1 : Value) = .bool hard) ∧
      (Ld (.int .i64) h_7 (p2.add 4) fun (term1 : Int) => (.int .i64 term1 : Value) = .int .i64 term) ∧
      (Ld (.int .i64) h_7 (p3.add 5) fun (vote1 : Int) => (.int .i64 vote1 : Value) = .int .i64 vote) ∧
      St h_7 s (.bool hard) fun h_8 =>
      St h_8 (s.add 1) (.int .i64 term) fun h_9 =>
      St h_9 (s.add 2) (.int .i64 vote) fun h_10 =>
      St h_10 (s.add 3) (.int .i64 0) fun h_11 =>
      St h_11 (s.add 4) (.slice none 0 0) fun h_12 =>
      Nn x fun p4 =>
      Ld (.int .i64) h_12 (p4.add 30) fun (from_ : Int) =>
      Join [] (fun _ h_13 =>
        Nn x fun p5 =>
        St h_13 (p5.add 29) (.bool false) fun h_14 =>
        Nn x fun p6 =>
        St h_14 (p6.add 30) (.int .i64 0) fun h_15 =>
        Ld .bool h_15 s fun (x_Hard : Bool) =>
        Ld (.int .i64) h_15 (s.add 1) fun (x_Term : Int) =>
        Ld (.int .i64) h_15 (s.add 2) fun (x_Vote : Int) =>
        Ld (.int .i64) h_15 (s.add 3) fun (x_From : Int) =>
        Ld .sl h_15 (s.add 4) fun (x_Entries : Sl) =>
        St h_15 p (.bool x_Hard) fun h_16 =>
        St h_16 (p.add 1) (.int .i64 x_Term) fun h_17 =>
        St h_17 (p.add 2) (.int .i64 x_Vote) fun h_18 =>
        St h_18 (p.add 3) (.int .i64 x_From) fun h_19 =>
        St h_19 (p.add 4) (.slice x_Entries.a x_Entries.n x_Entries.c) fun h_20 =>
        Ld .bool h_20 p fun (r_01 : Bool) =>
        Ld (.int .i64) h_20 (p.add 1) fun (r_11 : Int) =>
        Ld (.int .i64) h_20 (p.add 2) fun (r_21 : Int) =>
        Ld (.int .i64) h_20 (p.add 3) fun (r_31 : Int) =>
        Ld .sl h_20 (p.add 4) fun (r_41 : Sl) =>
        R (r_01, r_11, r_21, r_31, r_41, ()) true h_20
        ) fun J1 =>
      (bif decide (from_ > 0) then
        Nn x fun p7 =>
        Ld (.int .i64) h_12 (p7.add 30) fun (from_1 : Int) =>
        Nn x fun p8 =>
        Ld .ptr h_12 (p8.add 11) fun (log : Option Addr) =>
        Nn x fun p9 =>
        Ld (.int .i64) h_12 (p9.add 30) fun (from_2 : Int) =>
        C_log_Log_From log from_2 1024 h_12 fun (r : Sl) h_21 =>
        (Ld (.int .i64) h_21 (p7.add 30) fun (from_3 : Int) => (.int .i64 from_3 : Value) = .int .i64 from_1) ∧
        St h_21 (s.add 3) (.int .i64 from_1) fun h_22 =>
        St h_22 (s.add 4) (.slice r.a r.n r.c) fun h_23 =>
        J1  h_23
      else
        J1  h_12
      )
    )
    ) fun J =>
  (bif x.isNone then
    J true h_
  else
    Nn x fun p10 =>
    Ld .bool h_ (p10.add 29) fun (hard2 : Bool) =>
    (bif !hard2 then
      Nn x fun p11 =>
      Ld (.int .i64) h_ (p11.add 30) fun (from_4 : Int) =>
      J (from_4 == 0) h_
    else
      J false h_
    )
  )
theorem E_raft_Node_Save (x : Option Addr) (h : Heap) (R : KL [.bool, .int .i64, .int .i64, .int .i64, .sl] → Bool → Heap → Prop) :
    VG Try.prog [(12, [(20, .one .bool)]), (61, [])] Try.f20 [.pointer x] h [.agg [.bool, .int .i64, .int .i64, .int .i64, .sl], .one .bool] R = S_raft_Node_Save x h R := by kernel_rfl
theorem A_raft_Node_Save {x : Option Addr} {h : Heap} {R : KL [.bool, .int .i64, .int .i64, .int .i64, .sl] → Bool → Heap → Prop} (hs : S_raft_Node_Save x h R) : C_raft_Node_Save x h R :=
  useG_SR Try.func20 (by kernel_rfl) (E_raft_Node_Save x h R) hs

/-- raft.right -/
def S_raft_right (s : KL [.int .i64, .int .i64, .sl]) (h : Heap) (R : Bool → Heap → Prop) : Prop :=
  Alloc h (.cells #[.int .i64 s.1, .int .i64 s.2.1, .slice s.2.2.1.a s.2.2.1.n s.2.2.1.c] 32) fun s1 h_ =>
  Ld .sl h_ (s1.add 2) fun (Entries : Sl) =>
  Loop [.one (.int .i64), .one (.int .i64)] (fun _ (last : Int) (x9 : Int) h_1 go =>
    (bif decide (x9 < (Entries.n : Int)) then
      Ix Entries x9 2 fun e =>
      Ld (.int .i64) h_1 e fun (x_Term : Int) =>
      Ld .str h_1 (e.add 1) fun (x_Data : ByteArray) =>
      Alloc h_1 (.cells #[.int .i64 0, .string (⟨#[]⟩ : ByteArray)] 39) fun e1 h_2 =>
      St h_2 e1 (.int .i64 x_Term) fun h_3 =>
      St h_3 (e1.add 1) (.string x_Data) fun h_4 =>
      Ld (.int .i64) h_4 e1 fun (Term : Int) =>
      (bif decide (Term < last) then
        R false h_4
      else
        Ld (.int .i64) h_4 e1 fun (Term1 : Int) =>
        Ld (.int .i64) h_4 s1 fun (Term2 : Int) =>
        (bif decide (Term1 > Term2) then
          R false h_4
        else
          Ld .str h_4 (e1.add 1) fun (Data : ByteArray) =>
          (bif decide ((Data.size : Int) > 512) then
            R false h_4
          else
            Ld (.int .i64) h_4 e1 fun (Term3 : Int) =>
            go Term3 (IntKind.i64.wrap (x9 + 1)) h_4
          )
        )
      )
    else
      Ld (.int .i64) h_1 s1 fun (Term4 : Int) =>
      (bif decide (Term4 ≥ 0) then
        Ld (.int .i64) h_1 s1 fun (Term5 : Int) =>
        (bif decide (Term5 ≤ 1099511627776) then
          Ld (.int .i64) h_1 (s1.add 1) fun (Vote : Int) =>
          (bif decide (Vote ≥ (-1)) then
            Ld (.int .i64) h_1 (s1.add 1) fun (Vote1 : Int) =>
            (bif decide (Vote1 < 7) then
              Ld .sl h_1 (s1.add 2) fun (Entries1 : Sl) =>
              R (decide ((Entries1.n : Int) ≤ 1024)) h_1
            else
              R false h_1
            )
          else
            R false h_1
          )
        else
          R false h_1
        )
      else
        R false h_1
      )
    )
    ) (1, 0, ()) h_
theorem E_raft_right (s : KL [.int .i64, .int .i64, .sl]) (h : Heap) (R : Bool → Heap → Prop) :
    VF Try.prog [(58, [(3, .one (.int .i64)), (9, .one (.int .i64))])] Try.f21 [.agg ⟨KL.vals [.int .i64, .int .i64, .sl] s⟩] h [.one .bool] R = S_raft_right s h R := by kernel_rfl
theorem A_raft_right {s : KL [.int .i64, .int .i64, .sl]} {h : Heap} {R : Bool → Heap → Prop} (hs : S_raft_right s h R) : C_raft_right s h R :=
  use_ Try.func21 (by kernel_rfl) (E_raft_right s h R) hs

/-- (*raft.Node).lead -/
def S_raft_Node_lead (x : Option Addr) (h : Heap) (R : Heap → Prop) : Prop :=
  Nn x fun p =>
  Ld (.int .i64) h (p.add 9) fun (quiet : Int) =>
  Nn x fun p1 =>
  St h (p1.add 9) (.int .i64 (IntKind.i64.wrap (quiet + 1))) fun h_ =>
  Nn x fun p2 =>
  Ld (.int .i64) h_ (p2.add 9) fun (quiet1 : Int) =>
  Nn x fun p3 =>
  Ld (.int .i64) h_ (p3.add 2) fun (elect : Int) =>
  Join [] (fun _ h_1 =>
    Nn x fun p4 =>
    Ld (.int .i64) h_1 (p4.add 8) fun (since : Int) =>
    Nn x fun p5 =>
    Ld (.int .i64) h_1 (p5.add 3) fun (beat : Int) =>
    (bif decide (since ≥ beat) then
      C_raft_Node_toAll x h_1 fun h_2 =>
      R h_2
    else
      R h_1
    )
    ) fun J =>
  (bif decide (quiet1 ≥ elect) then
    Nn x fun p6 =>
    Ld (.int .u64) h_ (p6.add 13) fun (heard : Int) =>
    Nn x fun p7 =>
    Ld (.int .i64) h_ p7 fun (id : Int) =>
    Nneg (IntKind.u64.wrap id) (
    Let (bitV .or .u64 heard (shiftV .shl .u64 1 (IntKind.u64.wrap id)) : Int) fun heard1 =>
    Nn x fun p8 =>
    St h_ (p8.add 9) (.int .i64 0) fun h_3 =>
    Nn x fun p9 =>
    St h_3 (p9.add 13) (.int .u64 0) fun h_4 =>
    C_raft_Node_most x heard1 h_4 fun (r : Bool) h_5 =>
    (bif !r then
      Nn x fun p10 =>
      Ld (.int .i64) h_5 (p10.add 4) fun (term : Int) =>
      C_raft_Node_follow x term (-1) h_5 fun h_6 =>
      Nn x fun p11 =>
      St h_6 (p11.add 8) (.int .i64 0) fun h_7 =>
      R h_7
    else
      J  h_5
    )
    )
  else
    J  h_
  )
theorem E_raft_Node_lead (x : Option Addr) (h : Heap) (R : Heap → Prop) :
    VF Try.prog [(13, [])] Try.f23 [.pointer x] h [] R = S_raft_Node_lead x h R := by kernel_rfl
theorem A_raft_Node_lead {x : Option Addr} {h : Heap} {R : Heap → Prop} (hs : S_raft_Node_lead x h R) : C_raft_Node_lead x h R :=
  use_ Try.func23 (by kernel_rfl) (E_raft_Node_lead x h R) hs

/-- (*raft.Node).asks -/
def S_raft_Node_asks (x : Option Addr) (h : Heap) (R : Heap → Prop) : Prop :=
  Nn x fun p =>
  Ld (.int .i64) h p fun (id : Int) =>
  Nneg (IntKind.u64.wrap id) (
  Nn x fun p1 =>
  St h (p1.add 8) (.int .i64 0) fun h_ =>
  Nn x fun p2 =>
  St h_ (p2.add 6) (.int .i64 1) fun h_1 =>
  Nn x fun p3 =>
  St h_1 (p3.add 7) (.int .i64 (-1)) fun h_2 =>
  Nn x fun p4 =>
  St h_2 (p4.add 12) (.int .u64 (shiftV .shl .u64 1 (IntKind.u64.wrap id))) fun h_3 =>
  Nn x fun p5 =>
  Ld (.int .u64) h_3 (p5.add 12) fun (votes : Int) =>
  C_raft_Node_most x votes h_3 fun (r : Bool) h_4 =>
  (bif r then
    C_raft_Node_stands x h_4 fun h_5 =>
    R h_5
  else
    Nn x fun p6 =>
    Ld .ptr h_4 (p6.add 11) fun (log : Option Addr) =>
    C_log_Log_Last log h_4 fun (r1 : Int) (r2 : Int) h_6 =>
    Nn x fun p7 =>
    Ld (.int .i64) h_6 (p7.add 4) fun (term : Int) =>
    C_raft_Node_all x (1, 0, 0, IntKind.i64.wrap (term + 1), r1, r2, 0, false, ⟨none, 0, 0⟩, ()) h_6 fun h_7 =>
    R h_7
  )
  )
theorem E_raft_Node_asks (x : Option Addr) (h : Heap) (R : Heap → Prop) :
    VF Try.prog [] Try.f24 [.pointer x] h [] R = S_raft_Node_asks x h R := by kernel_rfl
theorem A_raft_Node_asks {x : Option Addr} {h : Heap} {R : Heap → Prop} (hs : S_raft_Node_asks x h R) : C_raft_Node_asks x h R :=
  use_ Try.func24 (by kernel_rfl) (E_raft_Node_asks x h R) hs

/-- (*raft.Node).add -/
def S_raft_Node_add (x : Option Addr) (data : ByteArray) (h : Heap) (R : Int → Heap → Prop) : Prop :=
  Nn x fun p =>
  Ld .ptr h (p.add 11) fun (log : Option Addr) =>
  Nn x fun p1 =>
  Ld (.int .i64) h (p1.add 4) fun (term : Int) =>
  C_log_Log_Add log (term, data, ()) h fun (r : Int) h_ =>
  (bif r != 0 then
    R r h_
  else
    Nn x fun p2 =>
    Ld .ptr h_ (p2.add 11) fun (log1 : Option Addr) =>
    C_log_Log_Last log1 h_ fun (r1 : Int) (r2 : Int) h_1 =>
    C_raft_Node_dirty x r1 h_1 fun h_2 =>
    C_raft_Node_toAll x h_2 fun h_3 =>
    C_raft_Node_agree x h_3 fun h_4 =>
    R 0 h_4
  )
theorem E_raft_Node_add (x : Option Addr) (data : ByteArray) (h : Heap) (R : Int → Heap → Prop) :
    VF Try.prog [] Try.f25 [.pointer x, .string data] h [.one (.int .i64)] R = S_raft_Node_add x data h R := by kernel_rfl
theorem A_raft_Node_add {x : Option Addr} {data : ByteArray} {h : Heap} {R : Int → Heap → Prop} (hs : S_raft_Node_add x data h R) : C_raft_Node_add x data h R :=
  use_ Try.func25 (by kernel_rfl) (E_raft_Node_add x data h R) hs

/-- (*raft.Node).counts -/
def S_raft_Node_counts (x : Option Addr) (m : KL [.int .i64, .int .i64, .int .i64, .int .i64, .int .i64, .int .i64, .int .i64, .bool, .sl]) (h : Heap) (R : Bool → Heap → Prop) : Prop :=
  Alloc h (.cells #[.int .i64 m.1, .int .i64 m.2.1, .int .i64 m.2.2.1, .int .i64 m.2.2.2.1, .int .i64 m.2.2.2.2.1, .int .i64 m.2.2.2.2.2.1, .int .i64 m.2.2.2.2.2.2.1, .bool m.2.2.2.2.2.2.2.1, .slice m.2.2.2.2.2.2.2.2.1.a m.2.2.2.2.2.2.2.2.1.n m.2.2.2.2.2.2.2.2.1.c] 47) fun m1 h_ =>
  Ld (.int .i64) h_ (m1.add 2) fun (To : Int) =>
  Nn x fun p =>
  Ld (.int .i64) h_ p fun (id : Int) =>
  (bif To == id then
    Ld (.int .i64) h_ (m1.add 1) fun (From : Int) =>
    Nn x fun p1 =>
    Ld (.int .i64) h_ p1 fun (id1 : Int) =>
    (bif From != id1 then
      Ld (.int .i64) h_ (m1.add 1) fun (From1 : Int) =>
      (bif decide (From1 ≥ 0) then
        Ld (.int .i64) h_ (m1.add 1) fun (From2 : Int) =>
        Nn x fun p2 =>
        Ld (.int .i64) h_ (p2.add 1) fun (n : Int) =>
        (bif decide (From2 < n) then
          Ld (.int .i64) h_ m1 fun (Kind : Int) =>
          (bif decide (Kind ≥ 1) then
            Ld (.int .i64) h_ m1 fun (Kind1 : Int) =>
            (bif decide (Kind1 ≤ 6) then
              Ld (.int .i64) h_ (m1.add 3) fun (Term : Int) =>
              (bif decide (Term ≥ 0) then
                Ld (.int .i64) h_ (m1.add 3) fun (Term1 : Int) =>
                (bif decide (Term1 ≤ 1099511627776) then
                  Ld .sl h_ (m1.add 8) fun (Entries : Sl) =>
                  (bif decide ((Entries.n : Int) ≤ 8) then
                    Ld .sl h_ (m1.add 8) fun (Entries1 : Sl) =>
                    C_slices_ContainsFunc_api_Entry_api_Entry Entries1 (.func (.func 46) #[] #[.pointer (some m1)]) h_ fun (r : Bool) h_1 =>
                    R (!r) h_1
                  else
                    R false h_
                  )
                else
                  R false h_
                )
              else
                R false h_
              )
            else
              R false h_
            )
          else
            R false h_
          )
        else
          R false h_
        )
      else
        R false h_
      )
    else
      R false h_
    )
  else
    R false h_
  )
theorem E_raft_Node_counts (x : Option Addr) (m : KL [.int .i64, .int .i64, .int .i64, .int .i64, .int .i64, .int .i64, .int .i64, .bool, .sl]) (h : Heap) (R : Bool → Heap → Prop) :
    VF Try.prog [] Try.f27 [.pointer x, .agg ⟨KL.vals [.int .i64, .int .i64, .int .i64, .int .i64, .int .i64, .int .i64, .int .i64, .bool, .sl] m⟩] h [.one .bool] R = S_raft_Node_counts x m h R := by kernel_rfl
theorem A_raft_Node_counts {x : Option Addr} {m : KL [.int .i64, .int .i64, .int .i64, .int .i64, .int .i64, .int .i64, .int .i64, .bool, .sl]} {h : Heap} {R : Bool → Heap → Prop} (hs : S_raft_Node_counts x m h R) : C_raft_Node_counts x m h R :=
  use_ Try.func27 (by kernel_rfl) (E_raft_Node_counts x m h R) hs

/-- (*raft.Node).askPre -/
def S_raft_Node_askPre (x : Option Addr) (m : KL [.int .i64, .int .i64, .int .i64, .int .i64, .int .i64, .int .i64, .int .i64, .bool, .sl]) (h : Heap) (R : Heap → Prop) : Prop :=
  Alloc h (.cells #[.int .i64 m.1, .int .i64 m.2.1, .int .i64 m.2.2.1, .int .i64 m.2.2.2.1, .int .i64 m.2.2.2.2.1, .int .i64 m.2.2.2.2.2.1, .int .i64 m.2.2.2.2.2.2.1, .bool m.2.2.2.2.2.2.2.1, .slice m.2.2.2.2.2.2.2.2.1.a m.2.2.2.2.2.2.2.2.1.n m.2.2.2.2.2.2.2.2.1.c] 47) fun m1 h_ =>
  Join [.one .bool] (fun _ (yes : Bool) h_1 =>
    Nn x fun p =>
    Ld (.int .i64) h_1 (p.add 4) fun (term : Int) =>
    (bif yes then
      Ld (.int .i64) h_1 (m1.add 3) fun (Term : Int) =>
      Ld (.int .i64) h_1 (m1.add 1) fun (From : Int) =>
      C_raft_Node_send x From (2, 0, 0, Term, 0, 0, 0, yes, ⟨none, 0, 0⟩, ()) h_1 fun h_2 =>
      R h_2
    else
      Ld (.int .i64) h_1 (m1.add 1) fun (From1 : Int) =>
      C_raft_Node_send x From1 (2, 0, 0, term, 0, 0, 0, yes, ⟨none, 0, 0⟩, ()) h_1 fun h_3 =>
      R h_3
    )
    ) fun J =>
  Ld (.int .i64) h_ (m1.add 3) fun (Term1 : Int) =>
  Nn x fun p1 =>
  Ld (.int .i64) h_ (p1.add 4) fun (term1 : Int) =>
  (bif decide (Term1 > term1) then
    Nn x fun p2 =>
    Ld .ptr h_ (p2.add 11) fun (log : Option Addr) =>
    Ld (.int .i64) h_ (m1.add 4) fun (Index : Int) =>
    Ld (.int .i64) h_ (m1.add 5) fun (LogTerm : Int) =>
    C_log_Log_Younger log Index LogTerm h_ fun (r : Bool) h_4 =>
    (bif r then
      Nn x fun p3 =>
      Ld (.int .i64) h_4 (p3.add 6) fun (role : Int) =>
      (bif role != 3 then
        Nn x fun p4 =>
        Ld (.int .i64) h_4 (p4.add 7) fun (leader : Int) =>
        (bif leader == (-1) then
          J true h_4
        else
          Nn x fun p5 =>
          Ld (.int .i64) h_4 (p5.add 8) fun (since : Int) =>
          Nn x fun p6 =>
          Ld (.int .i64) h_4 (p6.add 2) fun (elect : Int) =>
          Let (decide (since ≥ elect) : Bool) fun yes1 =>
          J yes1 h_4
        )
      else
        J false h_4
      )
    else
      J false h_4
    )
  else
    J false h_
  )
theorem E_raft_Node_askPre (x : Option Addr) (m : KL [.int .i64, .int .i64, .int .i64, .int .i64, .int .i64, .int .i64, .int .i64, .bool, .sl]) (h : Heap) (R : Heap → Prop) :
    VF Try.prog [(6, [(4, .one .bool)])] Try.f28 [.pointer x, .agg ⟨KL.vals [.int .i64, .int .i64, .int .i64, .int .i64, .int .i64, .int .i64, .int .i64, .bool, .sl] m⟩] h [] R = S_raft_Node_askPre x m h R := by kernel_rfl
theorem A_raft_Node_askPre {x : Option Addr} {m : KL [.int .i64, .int .i64, .int .i64, .int .i64, .int .i64, .int .i64, .int .i64, .bool, .sl]} {h : Heap} {R : Heap → Prop} (hs : S_raft_Node_askPre x m h R) : C_raft_Node_askPre x m h R :=
  use_ Try.func28 (by kernel_rfl) (E_raft_Node_askPre x m h R) hs

/-- (*raft.Node).tellPre -/
def S_raft_Node_tellPre (x : Option Addr) (m : KL [.int .i64, .int .i64, .int .i64, .int .i64, .int .i64, .int .i64, .int .i64, .bool, .sl]) (h : Heap) (R : Heap → Prop) : Prop :=
  Alloc h (.cells #[.int .i64 m.1, .int .i64 m.2.1, .int .i64 m.2.2.1, .int .i64 m.2.2.2.1, .int .i64 m.2.2.2.2.1, .int .i64 m.2.2.2.2.2.1, .int .i64 m.2.2.2.2.2.2.1, .bool m.2.2.2.2.2.2.2.1, .slice m.2.2.2.2.2.2.2.2.1.a m.2.2.2.2.2.2.2.2.1.n m.2.2.2.2.2.2.2.2.1.c] 47) fun m1 h_ =>
  Join [.one .bool] (fun _ (x4 : Bool) h_1 =>
    (bif x4 then
      Ld (.int .i64) h_1 (m1.add 3) fun (Term : Int) =>
      C_raft_Node_follow x Term (-1) h_1 fun h_2 =>
      R h_2
    else
      Join [.one .bool] (fun _ (x21 : Bool) h_3 =>
        (bif x21 then
          Nn x fun p =>
          Ld (.int .u64) h_3 (p.add 12) fun (votes : Int) =>
          Ld (.int .i64) h_3 (m1.add 1) fun (From : Int) =>
          Nneg (IntKind.u64.wrap From) (
          Nn x fun p1 =>
          St h_3 (p1.add 12) (.int .u64 (bitV .or .u64 votes (shiftV .shl .u64 1 (IntKind.u64.wrap From)))) fun h_4 =>
          Nn x fun p2 =>
          Ld (.int .u64) h_4 (p2.add 12) fun (votes1 : Int) =>
          C_raft_Node_most x votes1 h_4 fun (r : Bool) h_5 =>
          (bif r then
            C_raft_Node_stands x h_5 fun h_6 =>
            R h_6
          else
            R h_5
          )
          )
        else
          R h_3
        )
        ) fun J1 =>
      Ld .bool h_1 (m1.add 7) fun (Yes : Bool) =>
      (bif Yes then
        Ld (.int .i64) h_1 (m1.add 3) fun (Term1 : Int) =>
        Nn x fun p3 =>
        Ld (.int .i64) h_1 (p3.add 4) fun (term : Int) =>
        (bif Term1 == (IntKind.i64.wrap (term + 1)) then
          Nn x fun p4 =>
          Ld (.int .i64) h_1 (p4.add 6) fun (role : Int) =>
          J1 (role == 1) h_1
        else
          J1 false h_1
        )
      else
        J1 false h_1
      )
    )
    ) fun J =>
  Ld .bool h_ (m1.add 7) fun (Yes1 : Bool) =>
  (bif !Yes1 then
    Ld (.int .i64) h_ (m1.add 3) fun (Term2 : Int) =>
    Nn x fun p5 =>
    Ld (.int .i64) h_ (p5.add 4) fun (term1 : Int) =>
    J (decide (Term2 > term1)) h_
  else
    J false h_
  )
theorem E_raft_Node_tellPre (x : Option Addr) (m : KL [.int .i64, .int .i64, .int .i64, .int .i64, .int .i64, .int .i64, .int .i64, .bool, .sl]) (h : Heap) (R : Heap → Prop) :
    VF Try.prog [(12, [(4, .one .bool)]), (54, [(21, .one .bool)])] Try.f29 [.pointer x, .agg ⟨KL.vals [.int .i64, .int .i64, .int .i64, .int .i64, .int .i64, .int .i64, .int .i64, .bool, .sl] m⟩] h [] R = S_raft_Node_tellPre x m h R := by kernel_rfl
theorem A_raft_Node_tellPre {x : Option Addr} {m : KL [.int .i64, .int .i64, .int .i64, .int .i64, .int .i64, .int .i64, .int .i64, .bool, .sl]} {h : Heap} {R : Heap → Prop} (hs : S_raft_Node_tellPre x m h R) : C_raft_Node_tellPre x m h R :=
  use_ Try.func29 (by kernel_rfl) (E_raft_Node_tellPre x m h R) hs

/-- (*raft.Node).follow -/
def S_raft_Node_follow (x : Option Addr) (term : Int) (leader : Int) (h : Heap) (R : Heap → Prop) : Prop :=
  Nn x fun p =>
  Ld (.int .i64) h (p.add 4) fun (term1 : Int) =>
  Join [] (fun _ h_ =>
    Nn x fun p1 =>
    St h_ (p1.add 6) (.int .i64 0) fun h_1 =>
    Nn x fun p2 =>
    St h_1 (p2.add 7) (.int .i64 leader) fun h_2 =>
    R h_2
    ) fun J =>
  (bif decide (term > term1) then
    Nn x fun p3 =>
    St h (p3.add 4) (.int .i64 term) fun h_3 =>
    Nn x fun p4 =>
    St h_3 (p4.add 5) (.int .i64 (-1)) fun h_4 =>
    Nn x fun p5 =>
    St h_4 (p5.add 29) (.bool true) fun h_5 =>
    J  h_5
  else
    J  h
  )
theorem E_raft_Node_follow (x : Option Addr) (term : Int) (leader : Int) (h : Heap) (R : Heap → Prop) :
    VF Try.prog [(5, [])] Try.f30 [.pointer x, .int .i64 term, .int .i64 leader] h [] R = S_raft_Node_follow x term leader h R := by kernel_rfl
theorem A_raft_Node_follow {x : Option Addr} {term : Int} {leader : Int} {h : Heap} {R : Heap → Prop} (hs : S_raft_Node_follow x term leader h R) : C_raft_Node_follow x term leader h R :=
  use_ Try.func30 (by kernel_rfl) (E_raft_Node_follow x term leader h R) hs

/-- (*raft.Node).told -/
def S_raft_Node_told (x : Option Addr) (to : Int) (yes : Bool) (index : Int) (h : Heap) (R : Heap → Prop) : Prop :=
  Nn x fun p =>
  Ld (.int .i64) h (p.add 4) fun (term : Int) =>
  C_raft_Node_send x to (6, 0, 0, term, index, 0, 0, yes, ⟨none, 0, 0⟩, ()) h fun h_ =>
  R h_
theorem E_raft_Node_told (x : Option Addr) (to : Int) (yes : Bool) (index : Int) (h : Heap) (R : Heap → Prop) :
    VF Try.prog [] Try.f31 [.pointer x, .int .i64 to, .bool yes, .int .i64 index] h [] R = S_raft_Node_told x to yes index h R := by kernel_rfl
theorem A_raft_Node_told {x : Option Addr} {to : Int} {yes : Bool} {index : Int} {h : Heap} {R : Heap → Prop} (hs : S_raft_Node_told x to yes index h R) : C_raft_Node_told x to yes index h R :=
  use_ Try.func31 (by kernel_rfl) (E_raft_Node_told x to yes index h R) hs

/-- (*raft.Node).askVote -/
def S_raft_Node_askVote (x : Option Addr) (m : KL [.int .i64, .int .i64, .int .i64, .int .i64, .int .i64, .int .i64, .int .i64, .bool, .sl]) (h : Heap) (R : Heap → Prop) : Prop :=
  Alloc h (.cells #[.int .i64 m.1, .int .i64 m.2.1, .int .i64 m.2.2.1, .int .i64 m.2.2.2.1, .int .i64 m.2.2.2.2.1, .int .i64 m.2.2.2.2.2.1, .int .i64 m.2.2.2.2.2.2.1, .bool m.2.2.2.2.2.2.2.1, .slice m.2.2.2.2.2.2.2.2.1.a m.2.2.2.2.2.2.2.2.1.n m.2.2.2.2.2.2.2.2.1.c] 47) fun m1 h_ =>
  Join [.one .bool] (fun _ (yes : Bool) h_1 =>
    Join [] (fun _ h_2 =>
      Ld (.int .i64) h_2 (m1.add 1) fun (From : Int) =>
      Nn x fun p =>
      Ld (.int .i64) h_2 (p.add 4) fun (term : Int) =>
      C_raft_Node_send x From (4, 0, 0, term, 0, 0, 0, yes, ⟨none, 0, 0⟩, ()) h_2 fun h_3 =>
      R h_3
      ) fun J1 =>
    (bif yes then
      Join [] (fun _ h_4 =>
        Ld (.int .i64) h_4 (m1.add 1) fun (From1 : Int) =>
        Nn x fun p1 =>
        St h_4 (p1.add 5) (.int .i64 From1) fun h_5 =>
        Nn x fun p2 =>
        St h_5 (p2.add 8) (.int .i64 0) fun h_6 =>
        J1  h_6
        ) fun J2 =>
      Nn x fun p3 =>
      Ld .bool h_1 (p3.add 29) fun (hard : Bool) =>
      (bif hard then
        Nn x fun p4 =>
        St h_1 (p4.add 29) (.bool true) fun h_7 =>
        J2  h_7
      else
        Nn x fun p5 =>
        Ld (.int .i64) h_1 (p5.add 5) fun (vote : Int) =>
        Ld (.int .i64) h_1 (m1.add 1) fun (From2 : Int) =>
        Nn x fun p6 =>
        St h_1 (p6.add 29) (.bool (vote != From2)) fun h_8 =>
        J2  h_8
      )
    else
      J1  h_1
    )
    ) fun J =>
  Nn x fun p7 =>
  Ld (.int .i64) h_ (p7.add 5) fun (vote1 : Int) =>
  (bif vote1 == (-1) then
    Nn x fun p8 =>
    Ld (.int .i64) h_ (p8.add 6) fun (role : Int) =>
    (bif role != 3 then
      Nn x fun p9 =>
      Ld .ptr h_ (p9.add 11) fun (log : Option Addr) =>
      Ld (.int .i64) h_ (m1.add 4) fun (Index : Int) =>
      Ld (.int .i64) h_ (m1.add 5) fun (LogTerm : Int) =>
      C_log_Log_Younger log Index LogTerm h_ fun (r : Bool) h_9 =>
      J r h_9
    else
      J false h_
    )
  else
    Nn x fun p10 =>
    Ld (.int .i64) h_ (p10.add 5) fun (vote2 : Int) =>
    Ld (.int .i64) h_ (m1.add 1) fun (From3 : Int) =>
    (bif vote2 == From3 then
      Nn x fun p11 =>
      Ld (.int .i64) h_ (p11.add 6) fun (role1 : Int) =>
      (bif role1 != 3 then
        Nn x fun p12 =>
        Ld .ptr h_ (p12.add 11) fun (log1 : Option Addr) =>
        Ld (.int .i64) h_ (m1.add 4) fun (Index1 : Int) =>
        Ld (.int .i64) h_ (m1.add 5) fun (LogTerm1 : Int) =>
        C_log_Log_Younger log1 Index1 LogTerm1 h_ fun (r1 : Bool) h_10 =>
        J r1 h_10
      else
        J false h_
      )
    else
      J false h_
    )
  )
theorem E_raft_Node_askVote (x : Option Addr) (m : KL [.int .i64, .int .i64, .int .i64, .int .i64, .int .i64, .int .i64, .int .i64, .bool, .sl]) (h : Heap) (R : Heap → Prop) :
    VF Try.prog [(6, [(4, .one .bool)]), (29, []), (116, [])] Try.f32 [.pointer x, .agg ⟨KL.vals [.int .i64, .int .i64, .int .i64, .int .i64, .int .i64, .int .i64, .int .i64, .bool, .sl] m⟩] h [] R = S_raft_Node_askVote x m h R := by kernel_rfl
theorem A_raft_Node_askVote {x : Option Addr} {m : KL [.int .i64, .int .i64, .int .i64, .int .i64, .int .i64, .int .i64, .int .i64, .bool, .sl]} {h : Heap} {R : Heap → Prop} (hs : S_raft_Node_askVote x m h R) : C_raft_Node_askVote x m h R :=
  use_ Try.func32 (by kernel_rfl) (E_raft_Node_askVote x m h R) hs

/-- (*raft.Node).tellVote -/
def S_raft_Node_tellVote (x : Option Addr) (m : KL [.int .i64, .int .i64, .int .i64, .int .i64, .int .i64, .int .i64, .int .i64, .bool, .sl]) (h : Heap) (R : Heap → Prop) : Prop :=
  Alloc h (.cells #[.int .i64 m.1, .int .i64 m.2.1, .int .i64 m.2.2.1, .int .i64 m.2.2.2.1, .int .i64 m.2.2.2.2.1, .int .i64 m.2.2.2.2.2.1, .int .i64 m.2.2.2.2.2.2.1, .bool m.2.2.2.2.2.2.2.1, .slice m.2.2.2.2.2.2.2.2.1.a m.2.2.2.2.2.2.2.2.1.n m.2.2.2.2.2.2.2.2.1.c] 47) fun m1 h_ =>
  Join [.one .bool] (fun _ (x13 : Bool) h_1 =>
    (bif x13 then
      R h_1
    else
      Nn x fun p =>
      Ld (.int .u64) h_1 (p.add 12) fun (votes : Int) =>
      Ld (.int .i64) h_1 (m1.add 1) fun (From : Int) =>
      Nneg (IntKind.u64.wrap From) (
      Nn x fun p1 =>
      St h_1 (p1.add 12) (.int .u64 (bitV .or .u64 votes (shiftV .shl .u64 1 (IntKind.u64.wrap From)))) fun h_2 =>
      Nn x fun p2 =>
      Ld (.int .u64) h_2 (p2.add 12) fun (votes1 : Int) =>
      C_raft_Node_most x votes1 h_2 fun (r : Bool) h_3 =>
      (bif r then
        C_raft_Node_leads x h_3 fun h_4 =>
        R h_4
      else
        R h_3
      )
      )
    )
    ) fun J =>
  Ld .bool h_ (m1.add 7) fun (Yes : Bool) =>
  (bif !Yes then
    J true h_
  else
    Nn x fun p3 =>
    Ld (.int .i64) h_ (p3.add 6) fun (role : Int) =>
    J (role != 2) h_
  )
theorem E_raft_Node_tellVote (x : Option Addr) (m : KL [.int .i64, .int .i64, .int .i64, .int .i64, .int .i64, .int .i64, .int .i64, .bool, .sl]) (h : Heap) (R : Heap → Prop) :
    VF Try.prog [(12, [(13, .one .bool)])] Try.f33 [.pointer x, .agg ⟨KL.vals [.int .i64, .int .i64, .int .i64, .int .i64, .int .i64, .int .i64, .int .i64, .bool, .sl] m⟩] h [] R = S_raft_Node_tellVote x m h R := by kernel_rfl
theorem A_raft_Node_tellVote {x : Option Addr} {m : KL [.int .i64, .int .i64, .int .i64, .int .i64, .int .i64, .int .i64, .int .i64, .bool, .sl]} {h : Heap} {R : Heap → Prop} (hs : S_raft_Node_tellVote x m h R) : C_raft_Node_tellVote x m h R :=
  use_ Try.func33 (by kernel_rfl) (E_raft_Node_tellVote x m h R) hs

/-- (*raft.Node).append -/
def S_raft_Node_append (x : Option Addr) (m : KL [.int .i64, .int .i64, .int .i64, .int .i64, .int .i64, .int .i64, .int .i64, .bool, .sl]) (h : Heap) (R : Heap → Prop) : Prop :=
  Alloc h (.cells #[.int .i64 m.1, .int .i64 m.2.1, .int .i64 m.2.2.1, .int .i64 m.2.2.2.1, .int .i64 m.2.2.2.2.1, .int .i64 m.2.2.2.2.2.1, .int .i64 m.2.2.2.2.2.2.1, .bool m.2.2.2.2.2.2.2.1, .slice m.2.2.2.2.2.2.2.2.1.a m.2.2.2.2.2.2.2.2.1.n m.2.2.2.2.2.2.2.2.1.c] 47) fun m1 h_ =>
  Nn x fun p =>
  Ld (.int .i64) h_ (p.add 6) fun (role : Int) =>
  (bif role == 3 then
    R h_
  else
    Nn x fun p1 =>
    Ld (.int .i64) h_ (p1.add 4) fun (term : Int) =>
    Ld (.int .i64) h_ (m1.add 1) fun (From : Int) =>
    C_raft_Node_follow x term From h_ fun h_1 =>
    Nn x fun p2 =>
    St h_1 (p2.add 8) (.int .i64 0) fun h_2 =>
    Ld (.int .i64) h_2 (m1.add 4) fun (Index : Int) =>
    Nn x fun p3 =>
    Ld (.int .i64) h_2 (p3.add 10) fun (commit : Int) =>
    (bif decide (Index < commit) then
      Ld (.int .i64) h_2 (m1.add 1) fun (From1 : Int) =>
      Nn x fun p4 =>
      Ld (.int .i64) h_2 (p4.add 10) fun (commit1 : Int) =>
      C_raft_Node_told x From1 true commit1 h_2 fun h_3 =>
      R h_3
    else
      Nn x fun p5 =>
      Ld .ptr h_2 (p5.add 11) fun (log : Option Addr) =>
      Ld (.int .i64) h_2 (m1.add 4) fun (Index1 : Int) =>
      Ld (.int .i64) h_2 (m1.add 5) fun (LogTerm : Int) =>
      Ld .sl h_2 (m1.add 8) fun (Entries : Sl) =>
      C_log_Log_Put log Index1 LogTerm Entries h_2 fun (r : Int) (r1 : Int) h_4 =>
      (bif r1 != 0 then
        Ld (.int .i64) h_4 (m1.add 1) fun (From2 : Int) =>
        Ld (.int .i64) h_4 (m1.add 4) fun (Index2 : Int) =>
        C_raft_Node_Last x h_4 fun (r2 : Int) h_5 =>
        (Ld (.int .i64) h_5 (m1.add 1) fun (From3 : Int) => (.int .i64 From3 : Value) = .int .i64 From2) ∧
        (Ld (.int .i64) h_5 (m1.add 4) fun (Index3 : Int) => (.int .i64 Index3 : Value) = .int .i64 Index2) ∧
        C_raft_Node_told x From2 false (if 0 > (if (IntKind.i64.wrap (Index2 - 1)) < r2 then IntKind.i64.wrap (Index2 - 1) else r2) then 0 else if (IntKind.i64.wrap (Index2 - 1)) < r2 then IntKind.i64.wrap (Index2 - 1) else r2) h_5 fun h_6 =>
        R h_6
      else
        Join [] (fun _ h_7 =>
          Ld (.int .i64) h_7 (m1.add 4) fun (Index4 : Int) =>
          Ld .sl h_7 (m1.add 8) fun (Entries1 : Sl) =>
          Let (IntKind.i64.wrap (Index4 + (Entries1.n : Int)) : Int) fun last =>
          Nn x fun p6 =>
          Ld (.int .i64) h_7 (p6.add 10) fun (commit2 : Int) =>
          Ld (.int .i64) h_7 (m1.add 6) fun (Commit : Int) =>
          Nn x fun p7 =>
          St h_7 (p7.add 10) (.int .i64 (if (if last < Commit then last else Commit) > commit2 then if last < Commit then last else Commit else commit2)) fun h_8 =>
          Ld (.int .i64) h_8 (m1.add 1) fun (From4 : Int) =>
          C_raft_Node_told x From4 true last h_8 fun h_9 =>
          R h_9
          ) fun J =>
        (bif decide (r > 0) then
          C_raft_Node_dirty x r h_4 fun h_10 =>
          J  h_10
        else
          J  h_4
        )
      )
    )
  )
theorem E_raft_Node_append (x : Option Addr) (m : KL [.int .i64, .int .i64, .int .i64, .int .i64, .int .i64, .int .i64, .int .i64, .bool, .sl]) (h : Heap) (R : Heap → Prop) :
    VF Try.prog [(1021, [])] Try.f34 [.pointer x, .agg ⟨KL.vals [.int .i64, .int .i64, .int .i64, .int .i64, .int .i64, .int .i64, .int .i64, .bool, .sl] m⟩] h [] R = S_raft_Node_append x m h R := by kernel_rfl
theorem A_raft_Node_append {x : Option Addr} {m : KL [.int .i64, .int .i64, .int .i64, .int .i64, .int .i64, .int .i64, .int .i64, .bool, .sl]} {h : Heap} {R : Heap → Prop} (hs : S_raft_Node_append x m h R) : C_raft_Node_append x m h R :=
  use_ Try.func34 (by kernel_rfl) (E_raft_Node_append x m h R) hs

/-- (*raft.Node).hears -/
def S_raft_Node_hears (x : Option Addr) (m : KL [.int .i64, .int .i64, .int .i64, .int .i64, .int .i64, .int .i64, .int .i64, .bool, .sl]) (h : Heap) (R : Heap → Prop) : Prop :=
  Alloc h (.cells #[.int .i64 m.1, .int .i64 m.2.1, .int .i64 m.2.2.1, .int .i64 m.2.2.2.1, .int .i64 m.2.2.2.2.1, .int .i64 m.2.2.2.2.2.1, .int .i64 m.2.2.2.2.2.2.1, .bool m.2.2.2.2.2.2.2.1, .slice m.2.2.2.2.2.2.2.2.1.a m.2.2.2.2.2.2.2.2.1.n m.2.2.2.2.2.2.2.2.1.c] 47) fun m1 h_ =>
  Nn x fun p =>
  Ld (.int .i64) h_ (p.add 6) fun (role : Int) =>
  (bif role != 3 then
    R h_
  else
    Nn x fun p1 =>
    Ld (.int .u64) h_ (p1.add 13) fun (heard : Int) =>
    Ld (.int .i64) h_ (m1.add 1) fun (From : Int) =>
    Nneg (IntKind.u64.wrap From) (
    Nn x fun p2 =>
    St h_ (p2.add 13) (.int .u64 (bitV .or .u64 heard (shiftV .shl .u64 1 (IntKind.u64.wrap From)))) fun h_1 =>
    Ld (.int .i64) h_1 (m1.add 1) fun (From1 : Int) =>
    Nn x fun p3 =>
    IxA (p3.add 21) 7 From1 1 fun e =>
    C_raft_Node_Last x h_1 fun (r : Int) h_2 =>
    (Ld (.int .i64) h_2 (m1.add 1) fun (From2 : Int) => (.int .i64 From2 : Value) = .int .i64 From1) ∧
    Join [.one .bool] (fun _ (x30 : Bool) h_3 =>
      (bif x30 then
        Nn (some e) fun p4 =>
        Ld (.int .i64) h_3 p4 fun (x1 : Int) =>
        Ld (.int .i64) h_3 (m1.add 4) fun (Index : Int) =>
        Nn (some e) fun p5 =>
        St h_3 p5 (.int .i64 (if Index > x1 then Index else x1)) fun h_4 =>
        Ld (.int .i64) h_4 (m1.add 1) fun (From3 : Int) =>
        Nn (some e) fun p6 =>
        Ld (.int .i64) h_4 p6 fun (x2 : Int) =>
        Nn x fun p7 =>
        IxA (p7.add 14) 7 From3 1 fun e1 =>
        St h_4 e1 (.int .i64 (IntKind.i64.wrap (x2 + 1))) fun h_5 =>
        C_raft_Node_agree x h_5 fun h_6 =>
        Nn (some e) fun p8 =>
        Ld (.int .i64) h_6 p8 fun (x3 : Int) =>
        C_raft_Node_Last x h_6 fun (r1 : Int) h_7 =>
        (Ld (.int .i64) h_7 p8 fun (x4 : Int) => (.int .i64 x4 : Value) = .int .i64 x3) ∧
        (bif decide (x3 < r1) then
          Ld (.int .i64) h_7 (m1.add 1) fun (From4 : Int) =>
          C_raft_Node_to x From4 h_7 fun h_8 =>
          R h_8
        else
          R h_7
        )
      else
        Ld .bool h_3 (m1.add 7) fun (Yes : Bool) =>
        (bif !Yes then
          Ld (.int .i64) h_3 (m1.add 1) fun (From5 : Int) =>
          Ld (.int .i64) h_3 (m1.add 4) fun (Index1 : Int) =>
          Ld (.int .i64) h_3 (m1.add 1) fun (From6 : Int) =>
          Nn x fun p9 =>
          IxA (p9.add 14) 7 From6 1 fun e2 =>
          Ld (.int .i64) h_3 e2 fun (x5 : Int) =>
          Nn (some e) fun p10 =>
          Ld (.int .i64) h_3 p10 fun (x6 : Int) =>
          Nn x fun p11 =>
          IxA (p11.add 14) 7 From5 1 fun e3 =>
          St h_3 e3 (.int .i64 (if (IntKind.i64.wrap (x6 + 1)) > (if (IntKind.i64.wrap (x5 - 1)) < (IntKind.i64.wrap ((if r < (if 0 > Index1 then 0 else Index1) then r else if 0 > Index1 then 0 else Index1) + 1)) then IntKind.i64.wrap (x5 - 1) else IntKind.i64.wrap ((if r < (if 0 > Index1 then 0 else Index1) then r else if 0 > Index1 then 0 else Index1) + 1)) then IntKind.i64.wrap (x6 + 1) else if (IntKind.i64.wrap (x5 - 1)) < (IntKind.i64.wrap ((if r < (if 0 > Index1 then 0 else Index1) then r else if 0 > Index1 then 0 else Index1) + 1)) then IntKind.i64.wrap (x5 - 1) else IntKind.i64.wrap ((if r < (if 0 > Index1 then 0 else Index1) then r else if 0 > Index1 then 0 else Index1) + 1))) fun h_9 =>
          Ld (.int .i64) h_9 (m1.add 1) fun (From7 : Int) =>
          C_raft_Node_to x From7 h_9 fun h_10 =>
          R h_10
        else
          R h_3
        )
      )
      ) fun J =>
    Ld .bool h_2 (m1.add 7) fun (Yes1 : Bool) =>
    (bif Yes1 then
      Ld (.int .i64) h_2 (m1.add 4) fun (Index2 : Int) =>
      (bif decide (Index2 ≥ 0) then
        Ld (.int .i64) h_2 (m1.add 4) fun (Index3 : Int) =>
        J (decide (Index3 ≤ r)) h_2
      else
        J false h_2
      )
    else
      J false h_2
    )
    )
  )
theorem E_raft_Node_hears (x : Option Addr) (m : KL [.int .i64, .int .i64, .int .i64, .int .i64, .int .i64, .int .i64, .int .i64, .bool, .sl]) (h : Heap) (R : Heap → Prop) :
    VF Try.prog [(124, [(30, .one .bool)])] Try.f35 [.pointer x, .agg ⟨KL.vals [.int .i64, .int .i64, .int .i64, .int .i64, .int .i64, .int .i64, .int .i64, .bool, .sl] m⟩] h [] R = S_raft_Node_hears x m h R := by kernel_rfl
theorem A_raft_Node_hears {x : Option Addr} {m : KL [.int .i64, .int .i64, .int .i64, .int .i64, .int .i64, .int .i64, .int .i64, .bool, .sl]} {h : Heap} {R : Heap → Prop} (hs : S_raft_Node_hears x m h R) : C_raft_Node_hears x m h R :=
  use_ Try.func35 (by kernel_rfl) (E_raft_Node_hears x m h R) hs

/-- (*raft.Node).most -/
def S_raft_Node_most (x : Option Addr) (nodes : Int) (h : Heap) (R : Bool → Heap → Prop) : Prop :=
  Nn x fun p =>
  Ld (.int .i64) h (p.add 1) fun (n : Int) =>
  C_math_bits_OnesCount nodes h fun (r : Int) h_ =>
  (Ld (.int .i64) h_ (p.add 1) fun (n1 : Int) => (.int .i64 n1 : Value) = .int .i64 n) ∧
  R (decide ((IntKind.i64.wrap (2 * r)) > n)) h_
theorem E_raft_Node_most (x : Option Addr) (nodes : Int) (h : Heap) (R : Bool → Heap → Prop) :
    VF Try.prog [] Try.f39 [.pointer x, .int .u64 nodes] h [.one .bool] R = S_raft_Node_most x nodes h R := by kernel_rfl
theorem A_raft_Node_most {x : Option Addr} {nodes : Int} {h : Heap} {R : Bool → Heap → Prop} (hs : S_raft_Node_most x nodes h R) : C_raft_Node_most x nodes h R :=
  use_ Try.func39 (by kernel_rfl) (E_raft_Node_most x nodes h R) hs

/-- (*raft.Node).toAll -/
def S_raft_Node_toAll (x : Option Addr) (h : Heap) (R : Heap → Prop) : Prop :=
  Nn x fun p =>
  St h (p.add 8) (.int .i64 0) fun h_ =>
  Nn x fun p1 =>
  Ld (.int .i64) h_ (p1.add 1) fun (n : Int) =>
  Loop [.one (.int .i64)] (fun _ (x10 : Int) h_1 go =>
    (bif decide (x10 < n) then
      Nn x fun p2 =>
      Ld (.int .i64) h_1 p2 fun (id : Int) =>
      (bif x10 != id then
        C_raft_Node_to x x10 h_1 fun h_2 =>
        go (IntKind.i64.wrap (x10 + 1)) h_2
      else
        go (IntKind.i64.wrap (x10 + 1)) h_1
      )
    else
      R h_1
    )
    ) (0, ()) h_
theorem E_raft_Node_toAll (x : Option Addr) (h : Heap) (R : Heap → Prop) :
    VF Try.prog [(14, [(10, .one (.int .i64))])] Try.f40 [.pointer x] h [] R = S_raft_Node_toAll x h R := by kernel_rfl
theorem A_raft_Node_toAll {x : Option Addr} {h : Heap} {R : Heap → Prop} (hs : S_raft_Node_toAll x h R) : C_raft_Node_toAll x h R :=
  use_ Try.func40 (by kernel_rfl) (E_raft_Node_toAll x h R) hs

/-- (*raft.Node).stands -/
def S_raft_Node_stands (x : Option Addr) (h : Heap) (R : Heap → Prop) : Prop :=
  Nn x fun p =>
  Ld (.int .i64) h p fun (id : Int) =>
  Nneg (IntKind.u64.wrap id) (
  Nn x fun p1 =>
  St h (p1.add 8) (.int .i64 0) fun h_ =>
  Nn x fun p2 =>
  St h_ (p2.add 6) (.int .i64 2) fun h_1 =>
  Nn x fun p3 =>
  St h_1 (p3.add 12) (.int .u64 (shiftV .shl .u64 1 (IntKind.u64.wrap id))) fun h_2 =>
  Nn x fun p4 =>
  Ld (.int .i64) h_2 (p4.add 4) fun (term : Int) =>
  Nn x fun p5 =>
  Ld (.int .i64) h_2 p5 fun (id1 : Int) =>
  Nn x fun p6 =>
  St h_2 (p6.add 4) (.int .i64 (IntKind.i64.wrap (term + 1))) fun h_3 =>
  Nn x fun p7 =>
  St h_3 (p7.add 5) (.int .i64 id1) fun h_4 =>
  Nn x fun p8 =>
  St h_4 (p8.add 29) (.bool true) fun h_5 =>
  Nn x fun p9 =>
  Ld (.int .u64) h_5 (p9.add 12) fun (votes : Int) =>
  C_raft_Node_most x votes h_5 fun (r : Bool) h_6 =>
  (bif r then
    C_raft_Node_leads x h_6 fun h_7 =>
    R h_7
  else
    Nn x fun p10 =>
    Ld .ptr h_6 (p10.add 11) fun (log : Option Addr) =>
    C_log_Log_Last log h_6 fun (r1 : Int) (r2 : Int) h_8 =>
    Nn x fun p11 =>
    Ld (.int .i64) h_8 (p11.add 4) fun (term1 : Int) =>
    C_raft_Node_all x (3, 0, 0, term1, r1, r2, 0, false, ⟨none, 0, 0⟩, ()) h_8 fun h_9 =>
    R h_9
  )
  )
theorem E_raft_Node_stands (x : Option Addr) (h : Heap) (R : Heap → Prop) :
    VF Try.prog [] Try.f41 [.pointer x] h [] R = S_raft_Node_stands x h R := by kernel_rfl
theorem A_raft_Node_stands {x : Option Addr} {h : Heap} {R : Heap → Prop} (hs : S_raft_Node_stands x h R) : C_raft_Node_stands x h R :=
  use_ Try.func41 (by kernel_rfl) (E_raft_Node_stands x h R) hs

/-- (*raft.Node).all -/
def S_raft_Node_all (x : Option Addr) (m : KL [.int .i64, .int .i64, .int .i64, .int .i64, .int .i64, .int .i64, .int .i64, .bool, .sl]) (h : Heap) (R : Heap → Prop) : Prop :=
  Alloc h (.cells #[.int .i64 m.1, .int .i64 m.2.1, .int .i64 m.2.2.1, .int .i64 m.2.2.2.1, .int .i64 m.2.2.2.2.1, .int .i64 m.2.2.2.2.2.1, .int .i64 m.2.2.2.2.2.2.1, .bool m.2.2.2.2.2.2.2.1, .slice m.2.2.2.2.2.2.2.2.1.a m.2.2.2.2.2.2.2.2.1.n m.2.2.2.2.2.2.2.2.1.c] 47) fun m1 h_ =>
  Nn x fun p =>
  Ld (.int .i64) h_ (p.add 1) fun (n : Int) =>
  Loop [.one (.int .i64)] (fun _ (x9 : Int) h_1 go =>
    (bif decide (x9 < n) then
      Nn x fun p1 =>
      Ld (.int .i64) h_1 p1 fun (id : Int) =>
      (bif x9 != id then
        Ld (.int .i64) h_1 m1 fun (x_Kind : Int) =>
        Ld (.int .i64) h_1 (m1.add 1) fun (x_From : Int) =>
        Ld (.int .i64) h_1 (m1.add 2) fun (x_To : Int) =>
        Ld (.int .i64) h_1 (m1.add 3) fun (x_Term : Int) =>
        Ld (.int .i64) h_1 (m1.add 4) fun (x_Index : Int) =>
        Ld (.int .i64) h_1 (m1.add 5) fun (x_LogTerm : Int) =>
        Ld (.int .i64) h_1 (m1.add 6) fun (x_Commit : Int) =>
        Ld .bool h_1 (m1.add 7) fun (x_Yes : Bool) =>
        Ld .sl h_1 (m1.add 8) fun (x_Entries : Sl) =>
        C_raft_Node_send x x9 (x_Kind, x_From, x_To, x_Term, x_Index, x_LogTerm, x_Commit, x_Yes, x_Entries, ()) h_1 fun h_2 =>
        go (IntKind.i64.wrap (x9 + 1)) h_2
      else
        go (IntKind.i64.wrap (x9 + 1)) h_1
      )
    else
      R h_1
    )
    ) (0, ()) h_
theorem E_raft_Node_all (x : Option Addr) (m : KL [.int .i64, .int .i64, .int .i64, .int .i64, .int .i64, .int .i64, .int .i64, .bool, .sl]) (h : Heap) (R : Heap → Prop) :
    VF Try.prog [(14, [(9, .one (.int .i64))])] Try.f42 [.pointer x, .agg ⟨KL.vals [.int .i64, .int .i64, .int .i64, .int .i64, .int .i64, .int .i64, .int .i64, .bool, .sl] m⟩] h [] R = S_raft_Node_all x m h R := by kernel_rfl
theorem A_raft_Node_all {x : Option Addr} {m : KL [.int .i64, .int .i64, .int .i64, .int .i64, .int .i64, .int .i64, .int .i64, .bool, .sl]} {h : Heap} {R : Heap → Prop} (hs : S_raft_Node_all x m h R) : C_raft_Node_all x m h R :=
  use_ Try.func42 (by kernel_rfl) (E_raft_Node_all x m h R) hs

/-- (*raft.Node).dirty -/
def S_raft_Node_dirty (x : Option Addr) (index : Int) (h : Heap) (R : Heap → Prop) : Prop :=
  Nn x fun p =>
  Ld (.int .i64) h (p.add 30) fun (from_ : Int) =>
  (bif from_ == 0 then
    Nn x fun p1 =>
    St h (p1.add 30) (.int .i64 index) fun h_ =>
    R h_
  else
    Nn x fun p2 =>
    Ld (.int .i64) h (p2.add 30) fun (from_1 : Int) =>
    (bif decide (index < from_1) then
      Nn x fun p3 =>
      St h (p3.add 30) (.int .i64 index) fun h_1 =>
      R h_1
    else
      R h
    )
  )
theorem E_raft_Node_dirty (x : Option Addr) (index : Int) (h : Heap) (R : Heap → Prop) :
    VF Try.prog [] Try.f44 [.pointer x, .int .i64 index] h [] R = S_raft_Node_dirty x index h R := by kernel_rfl
theorem A_raft_Node_dirty {x : Option Addr} {index : Int} {h : Heap} {R : Heap → Prop} (hs : S_raft_Node_dirty x index h R) : C_raft_Node_dirty x index h R :=
  use_ Try.func44 (by kernel_rfl) (E_raft_Node_dirty x index h R) hs

/-- (*raft.Node).agree -/
def S_raft_Node_agree (x : Option Addr) (h : Heap) (R : Heap → Prop) : Prop :=
  Nn x fun p =>
  Ld .ptr h (p.add 11) fun (log : Option Addr) =>
  C_log_Log_Last log h fun (r : Int) (r1 : Int) h_ =>
  Loop [.one (.int .i64)] (fun _ (index : Int) h_1 go =>
    Nn x fun p1 =>
    Ld (.int .i64) h_1 (p1.add 10) fun (commit : Int) =>
    (bif decide (index > commit) then
      Nn x fun p2 =>
      Ld .ptr h_1 (p2.add 11) fun (log1 : Option Addr) =>
      C_log_Log_Term log1 index h_1 fun (r2 : Int) (r3 : Bool) h_2 =>
      Nn x fun p3 =>
      Ld (.int .i64) h_2 (p3.add 4) fun (term : Int) =>
      (bif r2 != term then
        R h_2
      else
        Nn x fun p4 =>
        Ld (.int .i64) h_2 p4 fun (id : Int) =>
        Nneg (IntKind.u64.wrap id) (
        Let (shiftV .shl .u64 1 (IntKind.u64.wrap id) : Int) fun have_ =>
        Nn x fun p5 =>
        Ld (.int .i64) h_2 (p5.add 1) fun (n : Int) =>
        Loop [.one (.int .u64), .one (.int .i64)] (fun _ (have_1 : Int) (x51 : Int) h_3 go1 =>
          (bif decide (x51 < n) then
            Nn x fun p6 =>
            Ld (.int .i64) h_3 p6 fun (id1 : Int) =>
            (bif x51 != id1 then
              Nn x fun p7 =>
              IxA (p7.add 21) 7 x51 1 fun e =>
              Ld (.int .i64) h_3 e fun (x1 : Int) =>
              (bif decide (x1 ≥ index) then
                Nneg (IntKind.u64.wrap x51) (
                Let (bitV .or .u64 have_1 (shiftV .shl .u64 1 (IntKind.u64.wrap x51)) : Int) fun have_2 =>
                go1 have_2 (IntKind.i64.wrap (x51 + 1)) h_3
                )
              else
                go1 have_1 (IntKind.i64.wrap (x51 + 1)) h_3
              )
            else
              go1 have_1 (IntKind.i64.wrap (x51 + 1)) h_3
            )
          else
            C_raft_Node_most x have_1 h_3 fun (r4 : Bool) h_4 =>
            (bif r4 then
              Nn x fun p8 =>
              St h_4 (p8.add 10) (.int .i64 index) fun h_5 =>
              C_raft_Node_toAll x h_5 fun h_6 =>
              R h_6
            else
              Let (IntKind.i64.wrap (index - 1) : Int) fun index1 =>
              go index1 h_4
            )
          )
          ) (have_, 0, ()) h_2
        )
      )
    else
      R h_1
    )
    ) (r, ()) h_
theorem E_raft_Node_agree (x : Option Addr) (h : Heap) (R : Heap → Prop) :
    VF Try.prog [(14, [(4, .one (.int .i64))]), (7322, [(7, .one (.int .u64)), (51, .one (.int .i64))])] Try.f45 [.pointer x] h [] R = S_raft_Node_agree x h R := by kernel_rfl
theorem A_raft_Node_agree {x : Option Addr} {h : Heap} {R : Heap → Prop} (hs : S_raft_Node_agree x h R) : C_raft_Node_agree x h R :=
  use_ Try.func45 (by kernel_rfl) (E_raft_Node_agree x h R) hs

/-- (*raft.Node).counts$1 -/
def S_raft_Node_counts_1 (e : KL [.int .i64, .str]) (fv : Addr) (h : Heap) (R : Bool → Heap → Prop) : Prop :=
  Alloc h (.cells #[.int .i64 e.1, .string e.2.1] 39) fun e1 h_ =>
  Ld (.int .i64) h_ e1 fun (Term : Int) =>
  Ld (.int .i64) h_ (fv.add 3) fun (Term1 : Int) =>
  (bif decide (Term > Term1) then
    R true h_
  else
    Ld (.int .i64) h_ e1 fun (Term2 : Int) =>
    (bif decide (Term2 < 1) then
      R true h_
    else
      Ld .str h_ (e1.add 1) fun (Data : ByteArray) =>
      R (decide ((Data.size : Int) > 512)) h_
    )
  )
theorem E_raft_Node_counts_1 (e : KL [.int .i64, .str]) (fv : Addr) (h : Heap) (R : Bool → Heap → Prop) :
    VF Try.prog [] Try.f46 [.agg ⟨KL.vals [.int .i64, .str] e⟩, .pointer (some fv)] h [.one .bool] R = S_raft_Node_counts_1 e fv h R := by kernel_rfl
theorem A_raft_Node_counts_1 {e : KL [.int .i64, .str]} {fv : Addr} {h : Heap} {R : Bool → Heap → Prop} (hs : S_raft_Node_counts_1 e fv h R) : C_raft_Node_counts_1 e (some fv) h R :=
  use_ Try.func46 (by kernel_rfl) (E_raft_Node_counts_1 e fv h R) hs

/-- slices.ContainsFunc[[]api.Entry,api.Entry] -/
def S_slices_ContainsFunc_api_Entry_api_Entry (s : Sl) (cap : Option Addr) (h : Heap) (R : Bool → Heap → Prop) : Prop :=
  C_slices_IndexFunc_api_Entry_api_Entry s (.func (.func 46) #[] #[.pointer cap]) h fun (r : Int) h_ =>
  R (decide (r ≥ 0)) h_
theorem E_slices_ContainsFunc_api_Entry_api_Entry (s : Sl) (cap : Option Addr) (h : Heap) (R : Bool → Heap → Prop) :
    VF Try.prog [] Try.f47 [.slice s.a s.n s.c, .func (.func 46) #[] #[.pointer cap]] h [.one .bool] R = S_slices_ContainsFunc_api_Entry_api_Entry s cap h R := by kernel_rfl
theorem A_slices_ContainsFunc_api_Entry_api_Entry {s : Sl} {cap : Option Addr} {h : Heap} {R : Bool → Heap → Prop} (hs : S_slices_ContainsFunc_api_Entry_api_Entry s cap h R) : C_slices_ContainsFunc_api_Entry_api_Entry s (.func (.func 46) #[] #[.pointer cap]) h R :=
  use_ Try.func47 (by kernel_rfl) (E_slices_ContainsFunc_api_Entry_api_Entry s cap h R) hs

/-- (*raft.Node).send -/
def S_raft_Node_send (x : Option Addr) (to : Int) (m : KL [.int .i64, .int .i64, .int .i64, .int .i64, .int .i64, .int .i64, .int .i64, .bool, .sl]) (h : Heap) (R : Heap → Prop) : Prop :=
  Alloc h (.cells #[.int .i64 m.1, .int .i64 m.2.1, .int .i64 m.2.2.1, .int .i64 m.2.2.2.1, .int .i64 m.2.2.2.2.1, .int .i64 m.2.2.2.2.2.1, .int .i64 m.2.2.2.2.2.2.1, .bool m.2.2.2.2.2.2.2.1, .slice m.2.2.2.2.2.2.2.2.1.a m.2.2.2.2.2.2.2.2.1.n m.2.2.2.2.2.2.2.2.1.c] 47) fun m1 h_ =>
  Nn x fun p =>
  Ld (.int .i64) h_ p fun (id : Int) =>
  St h_ (m1.add 1) (.int .i64 id) fun h_1 =>
  St h_1 (m1.add 2) (.int .i64 to) fun h_2 =>
  Nn x fun p1 =>
  Ld .sl h_2 (p1.add 28) fun (out : Sl) =>
  Ld (.int .i64) h_2 m1 fun (x_Kind : Int) =>
  Ld (.int .i64) h_2 (m1.add 1) fun (x_From : Int) =>
  Ld (.int .i64) h_2 (m1.add 2) fun (x_To : Int) =>
  Ld (.int .i64) h_2 (m1.add 3) fun (x_Term : Int) =>
  Ld (.int .i64) h_2 (m1.add 4) fun (x_Index : Int) =>
  Ld (.int .i64) h_2 (m1.add 5) fun (x_LogTerm : Int) =>
  Ld (.int .i64) h_2 (m1.add 6) fun (x_Commit : Int) =>
  Ld .bool h_2 (m1.add 7) fun (x_Yes : Bool) =>
  Ld .sl h_2 (m1.add 8) fun (x_Entries : Sl) =>
  Alloc h_2 (.cells #[.int .i64 x_Kind, .int .i64 x_From, .int .i64 x_To, .int .i64 x_Term, .int .i64 x_Index, .int .i64 x_LogTerm, .int .i64 x_Commit, .bool x_Yes, .slice x_Entries.a x_Entries.n x_Entries.c] 47) fun b h_3 =>
  (Ld .sl h_3 (p1.add 28) fun (out1 : Sl) => (.slice out1.a out1.n out1.c : Value) = .slice out.a out.n out.c) ∧
  App Try.prog 40 40 out ⟨some b, 1, 1⟩ h_3 fun s h_4 =>
  Nn x fun p2 =>
  St h_4 (p2.add 28) (.slice s.a s.n s.c) fun h_5 =>
  R h_5
theorem E_raft_Node_send (x : Option Addr) (to : Int) (m : KL [.int .i64, .int .i64, .int .i64, .int .i64, .int .i64, .int .i64, .int .i64, .bool, .sl]) (h : Heap) (R : Heap → Prop) :
    VF Try.prog [] Try.f49 [.pointer x, .int .i64 to, .agg ⟨KL.vals [.int .i64, .int .i64, .int .i64, .int .i64, .int .i64, .int .i64, .int .i64, .bool, .sl] m⟩] h [] R = S_raft_Node_send x to m h R := by kernel_rfl
theorem A_raft_Node_send {x : Option Addr} {to : Int} {m : KL [.int .i64, .int .i64, .int .i64, .int .i64, .int .i64, .int .i64, .int .i64, .bool, .sl]} {h : Heap} {R : Heap → Prop} (hs : S_raft_Node_send x to m h R) : C_raft_Node_send x to m h R :=
  use_ Try.func49 (by kernel_rfl) (E_raft_Node_send x to m h R) hs

/-- (*raft.Node).leads -/
def S_raft_Node_leads (x : Option Addr) (h : Heap) (R : Heap → Prop) : Prop :=
  Nn x fun p =>
  Ld (.int .i64) h p fun (id : Int) =>
  Nn x fun p1 =>
  St h (p1.add 8) (.int .i64 0) fun h_ =>
  Nn x fun p2 =>
  St h_ (p2.add 9) (.int .i64 0) fun h_1 =>
  Nn x fun p3 =>
  St h_1 (p3.add 6) (.int .i64 3) fun h_2 =>
  Nn x fun p4 =>
  St h_2 (p4.add 7) (.int .i64 id) fun h_3 =>
  Nn x fun p5 =>
  St h_3 (p5.add 13) (.int .u64 0) fun h_4 =>
  Nn x fun p6 =>
  Ld .ptr h_4 (p6.add 11) fun (log : Option Addr) =>
  C_log_Log_Last log h_4 fun (r : Int) (r1 : Int) h_5 =>
  Nn x fun p7 =>
  Ld (.int .i64) h_5 (p7.add 1) fun (n : Int) =>
  Loop [.one (.int .i64)] (fun _ (x36 : Int) h_6 go =>
    (bif decide (x36 < n) then
      Nn x fun p8 =>
      IxA (p8.add 14) 7 x36 1 fun e =>
      Nn x fun p9 =>
      St h_6 e (.int .i64 (IntKind.i64.wrap (r + 1))) fun h_7 =>
      IxA (p9.add 21) 7 x36 1 fun e1 =>
      St h_7 e1 (.int .i64 0) fun h_8 =>
      go (IntKind.i64.wrap (x36 + 1)) h_8
    else
      C_raft_Node_add x (⟨#[]⟩ : ByteArray) h_6 fun (r2 : Int) h_9 =>
      (bif r2 != 0 then
        Nn x fun p10 =>
        Ld (.int .i64) h_9 (p10.add 4) fun (term : Int) =>
        C_raft_Node_follow x term (-1) h_9 fun h_10 =>
        R h_10
      else
        R h_9
      )
    )
    ) (0, ()) h_5
theorem E_raft_Node_leads (x : Option Addr) (h : Heap) (R : Heap → Prop) :
    VF Try.prog [(58, [(36, .one (.int .i64))])] Try.f50 [.pointer x] h [] R = S_raft_Node_leads x h R := by kernel_rfl
theorem A_raft_Node_leads {x : Option Addr} {h : Heap} {R : Heap → Prop} (hs : S_raft_Node_leads x h R) : C_raft_Node_leads x h R :=
  use_ Try.func50 (by kernel_rfl) (E_raft_Node_leads x h R) hs

/-- (*raft.Node).to -/
def S_raft_Node_to (x : Option Addr) (to : Int) (h : Heap) (R : Heap → Prop) : Prop :=
  Nn x fun p =>
  IxA (p.add 14) 7 to 1 fun e =>
  Ld (.int .i64) h e fun (x1 : Int) =>
  Let (IntKind.i64.wrap (x1 - 1) : Int) fun ahead =>
  Nn x fun p1 =>
  Ld .ptr h (p1.add 11) fun (log : Option Addr) =>
  C_log_Log_Term log ahead h fun (r : Int) (r1 : Bool) h_ =>
  Nn x fun p2 =>
  Ld (.int .i64) h_ (p2.add 4) fun (term : Int) =>
  Nn x fun p3 =>
  Ld (.int .i64) h_ (p3.add 10) fun (commit : Int) =>
  Nn x fun p4 =>
  Ld .ptr h_ (p4.add 11) fun (log1 : Option Addr) =>
  C_log_Log_From log1 (IntKind.i64.wrap (ahead + 1)) 8 h_ fun (r2 : Sl) h_1 =>
  (Ld (.int .i64) h_1 (p2.add 4) fun (term1 : Int) => (.int .i64 term1 : Value) = .int .i64 term) ∧
  (Ld (.int .i64) h_1 (p3.add 10) fun (commit1 : Int) => (.int .i64 commit1 : Value) = .int .i64 commit) ∧
  C_raft_Node_send x to (5, 0, 0, term, ahead, r, commit, false, r2, ()) h_1 fun h_2 =>
  R h_2
theorem E_raft_Node_to (x : Option Addr) (to : Int) (h : Heap) (R : Heap → Prop) :
    VF Try.prog [] Try.f52 [.pointer x, .int .i64 to] h [] R = S_raft_Node_to x to h R := by kernel_rfl
theorem A_raft_Node_to {x : Option Addr} {to : Int} {h : Heap} {R : Heap → Prop} (hs : S_raft_Node_to x to h R) : C_raft_Node_to x to h R :=
  use_ Try.func52 (by kernel_rfl) (E_raft_Node_to x to h R) hs

/-- math.bits.OnesCount -/
def S_math_bits_OnesCount (x : Int) (h : Heap) (R : Int → Heap → Prop) : Prop :=
  C_math_bits_OnesCount64 x h fun (r : Int) h_ =>
  R r h_
theorem E_math_bits_OnesCount (x : Int) (h : Heap) (R : Int → Heap → Prop) :
    VF Try.prog [] Try.f53 [.int .u64 x] h [.one (.int .i64)] R = S_math_bits_OnesCount x h R := by kernel_rfl
theorem A_math_bits_OnesCount {x : Int} {h : Heap} {R : Int → Heap → Prop} (hs : S_math_bits_OnesCount x h R) : C_math_bits_OnesCount x h R :=
  use_ Try.func53 (by kernel_rfl) (E_math_bits_OnesCount x h R) hs

/-- slices.IndexFunc[[]api.Entry,api.Entry] -/
def S_slices_IndexFunc_api_Entry_api_Entry (s : Sl) (cap : Option Addr) (h : Heap) (R : Int → Heap → Prop) : Prop :=
  Loop [.one (.int .i64)] (fun _ (x8 : Int) h_ go =>
    (bif decide (x8 < (s.n : Int)) then
      Ix s x8 2 fun e =>
      Ld (.int .i64) h_ e fun (x_Term : Int) =>
      Ld .str h_ (e.add 1) fun (x_Data : ByteArray) =>
      C_raft_Node_counts_1 (x_Term, x_Data, ()) cap h_ fun (r : Bool) h_1 =>
      (bif r then
        R x8 h_1
      else
        go (IntKind.i64.wrap (x8 + 1)) h_1
      )
    else
      R (-1) h_
    )
    ) (0, ()) h
theorem E_slices_IndexFunc_api_Entry_api_Entry (s : Sl) (cap : Option Addr) (h : Heap) (R : Int → Heap → Prop) :
    VF Try.prog [(26, [(8, .one (.int .i64))])] Try.f55 [.slice s.a s.n s.c, .func (.func 46) #[] #[.pointer cap]] h [.one (.int .i64)] R = S_slices_IndexFunc_api_Entry_api_Entry s cap h R := by kernel_rfl
theorem A_slices_IndexFunc_api_Entry_api_Entry {s : Sl} {cap : Option Addr} {h : Heap} {R : Int → Heap → Prop} (hs : S_slices_IndexFunc_api_Entry_api_Entry s cap h R) : C_slices_IndexFunc_api_Entry_api_Entry s (.func (.func 46) #[] #[.pointer cap]) h R :=
  use_ Try.func55 (by kernel_rfl) (E_slices_IndexFunc_api_Entry_api_Entry s cap h R) hs

/-- math.bits.OnesCount64 -/
def S_math_bits_OnesCount64 (x : Int) (h : Heap) (R : Int → Heap → Prop) : Prop :=
  Nneg 1 (
  Let (IntKind.u64.wrap ((bitV .and .u64 (shiftV .shr .u64 x 1) 6148914691236517205) + (bitV .and .u64 x 6148914691236517205)) : Int) fun x1 =>
  Nneg 2 (
  Let (IntKind.u64.wrap ((bitV .and .u64 (shiftV .shr .u64 x1 2) 3689348814741910323) + (bitV .and .u64 x1 3689348814741910323)) : Int) fun x2 =>
  Nneg 4 (
  Let (bitV .and .u64 (IntKind.u64.wrap ((shiftV .shr .u64 x2 4) + x2)) 1085102592571150095 : Int) fun x3 =>
  Nneg 8 (
  Let (IntKind.u64.wrap (x3 + (shiftV .shr .u64 x3 8)) : Int) fun x4 =>
  Nneg 16 (
  Let (IntKind.u64.wrap (x4 + (shiftV .shr .u64 x4 16)) : Int) fun x5 =>
  Nneg 32 (
  Let (IntKind.u64.wrap (x5 + (shiftV .shr .u64 x5 32)) : Int) fun x6 =>
  R (bitV .and .i64 (IntKind.i64.wrap x6) 127) h
  )
  )
  )
  )
  )
  )
theorem E_math_bits_OnesCount64 (x : Int) (h : Heap) (R : Int → Heap → Prop) :
    VF Try.prog [] Try.f59 [.int .u64 x] h [.one (.int .i64)] R = S_math_bits_OnesCount64 x h R := by kernel_rfl
theorem A_math_bits_OnesCount64 {x : Int} {h : Heap} {R : Int → Heap → Prop} (hs : S_math_bits_OnesCount64 x h R) : C_math_bits_OnesCount64 x h R :=
  use_ Try.func59 (by kernel_rfl) (E_math_bits_OnesCount64 x h R) hs

end Go.Proofs.Ytniojdaddolnfaa
