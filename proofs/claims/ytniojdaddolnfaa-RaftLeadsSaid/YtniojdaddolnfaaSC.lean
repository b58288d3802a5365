/- Printed by a program: each function of the translation as a predicate over the heap: what a call of it comes to. -/
import Derived.Test.YtniojdaddolnfaaVf
import Derived.Test.YtniojdaddolnfaaProg
set_option maxRecDepth 1000000
namespace Go.Proofs.Ytniojdaddolnfaa
open Go
theorem mixed_ : Try.prog.follows .mixedOrders = true := by kernel_rfl
theorem use_ {an : List (Nat × Slots)} {f : FuncId} {fn : Func} {args : List Value} {h : Heap} {ss : List Sh} {R : TH (Heap → Prop) ss} {S : Prop} (hf : Try.prog.funcs[f]? = some fn) (hb : codeOk fn args.length = true) (e : VF Try.prog an fn args h ss R = S) (hs : S) : CallR Try.prog f args h ss R := VF_sound (an := an) mixed_ hf hb (cast e.symm hs)

def C_gosem_cut_init  (h : Heap) (R : Heap → Prop) : Prop := CallR Try.prog 2 [] h [] R
def C_law08_RaftAlone (a0 : Int) (a1 : Int) (a2 : Sl) (h : Heap) (R : Bool → Heap → Prop) : Prop := CallR Try.prog 3 [.int .u16 a0, .int .u32 a1, .slice a2.a a2.n a2.c] h [.one .bool] R
def C_law08_RaftLeads (a0 : Int) (a1 : Sl) (a2 : Sl) (h : Heap) (R : Bool → Heap → Prop) : Prop := CallR Try.prog 4 [.int .u8 a0, .slice a1.a a1.n a1.c, .slice a2.a a2.n a2.c] h [.one .bool] R
def C_law08_RaftVotes (a0 : Sl) (a1 : Sl) (h : Heap) (R : Bool → Heap → Prop) : Prop := CallR Try.prog 5 [.slice a0.a a0.n a0.c, .slice a1.a a1.n a1.c] h [.one .bool] R
def C_law08_fixed  (h : Heap) (R : Bool → Heap → Prop) : Prop := CallR Try.prog 6 [] h [.one .bool] R
def C_raft_New (a0 : Int) (a1 : Int) (a2 : Int) (a3 : Int) (a4 : KL [.int .i64, .int .i64, .sl]) (h : Heap) (R : Option Addr → Int → Heap → Prop) : Prop := CallR Try.prog 7 [.int .i64 a0, .int .i64 a1, .int .i64 a2, .int .i64 a3, .agg ⟨KL.vals [.int .i64, .int .i64, .sl] a4⟩] h [.one .ptr, .one (.int .i64)] R
def C_raft_Node_Role (a0 : Option Addr) (h : Heap) (R : Int → Heap → Prop) : Prop := CallR Try.prog 8 [.pointer a0] h [.one (.int .i64)] R
def C_raft_Node_Term (a0 : Option Addr) (h : Heap) (R : Int → Heap → Prop) : Prop := CallR Try.prog 9 [.pointer a0] h [.one (.int .i64)] R
def C_raft_Node_Tick (a0 : Option Addr) (a1 : Int) (h : Heap) (R : Heap → Prop) : Prop := CallR Try.prog 10 [.pointer a0, .int .i64 a1] h [] R
def C_raft_Node_Propose (a0 : Option Addr) (a1 : ByteArray) (h : Heap) (R : Int → Int → Heap → Prop) : Prop := CallR Try.prog 11 [.pointer a0, .string a1] h [.one (.int .i64), .one (.int .i64)] R
def C_raft_Node_Committed (a0 : Option Addr) (a1 : Int) (h : Heap) (R : Sl → Heap → Prop) : Prop := CallR Try.prog 12 [.pointer a0, .int .i64 a1] h [.one .sl] R
def C_raft_Node_Commit (a0 : Option Addr) (h : Heap) (R : Int → Heap → Prop) : Prop := CallR Try.prog 13 [.pointer a0] h [.one (.int .i64)] R
def C_raft_Node_Out (a0 : Option Addr) (h : Heap) (R : Sl → Heap → Prop) : Prop := CallR Try.prog 14 [.pointer a0] h [.one .sl] R
def C_raft_Node_Leader (a0 : Option Addr) (h : Heap) (R : Int → Heap → Prop) : Prop := CallR Try.prog 15 [.pointer a0] h [.one (.int .i64)] R
def C_ref06_Right (a0 : KL [.int .i64, .int .i64, .sl]) (h : Heap) (R : Bool → Heap → Prop) : Prop := CallR Try.prog 16 [.agg ⟨KL.vals [.int .i64, .int .i64, .sl] a0⟩] h [.one .bool] R
def C_raft_Node_Step (a0 : Option Addr) (a1 : KL [.int .i64, .int .i64, .int .i64, .int .i64, .int .i64, .int .i64, .int .i64, .bool, .sl]) (h : Heap) (R : Heap → Prop) : Prop := CallR Try.prog 17 [.pointer a0, .agg ⟨KL.vals [.int .i64, .int .i64, .int .i64, .int .i64, .int .i64, .int .i64, .int .i64, .bool, .sl] a1⟩] h [] R
def C_raft_Node_Last (a0 : Option Addr) (h : Heap) (R : Int → Heap → Prop) : Prop := CallR Try.prog 18 [.pointer a0] h [.one (.int .i64)] R
def C_raft_Node_State (a0 : Option Addr) (h : Heap) (R : KL [.int .i64, .int .i64, .sl] → Heap → Prop) : Prop := CallR Try.prog 19 [.pointer a0] h [.agg [.int .i64, .int .i64, .sl]] R
def C_raft_Node_Save (a0 : Option Addr) (h : Heap) (R : KL [.bool, .int .i64, .int .i64, .int .i64, .sl] → Bool → Heap → Prop) : Prop := CallR Try.prog 20 [.pointer a0] h [.agg [.bool, .int .i64, .int .i64, .int .i64, .sl], .one .bool] R
def C_raft_right (a0 : KL [.int .i64, .int .i64, .sl]) (h : Heap) (R : Bool → Heap → Prop) : Prop := CallR Try.prog 21 [.agg ⟨KL.vals [.int .i64, .int .i64, .sl] a0⟩] h [.one .bool] R
def C_log_New (a0 : Sl) (h : Heap) (R : Option Addr → Heap → Prop) : Prop := CallR Try.prog 22 [.slice a0.a a0.n a0.c] h [.one .ptr] R
def C_raft_Node_lead (a0 : Option Addr) (h : Heap) (R : Heap → Prop) : Prop := CallR Try.prog 23 [.pointer a0] h [] R
def C_raft_Node_asks (a0 : Option Addr) (h : Heap) (R : Heap → Prop) : Prop := CallR Try.prog 24 [.pointer a0] h [] R
def C_raft_Node_add (a0 : Option Addr) (a1 : ByteArray) (h : Heap) (R : Int → Heap → Prop) : Prop := CallR Try.prog 25 [.pointer a0, .string a1] h [.one (.int .i64)] R
def C_log_Log_From (a0 : Option Addr) (a1 : Int) (a2 : Int) (h : Heap) (R : Sl → Heap → Prop) : Prop := CallR Try.prog 26 [.pointer a0, .int .i64 a1, .int .i64 a2] h [.one .sl] R
def C_raft_Node_counts (a0 : Option Addr) (a1 : KL [.int .i64, .int .i64, .int .i64, .int .i64, .int .i64, .int .i64, .int .i64, .bool, .sl]) (h : Heap) (R : Bool → Heap → Prop) : Prop := CallR Try.prog 27 [.pointer a0, .agg ⟨KL.vals [.int .i64, .int .i64, .int .i64, .int .i64, .int .i64, .int .i64, .int .i64, .bool, .sl] a1⟩] h [.one .bool] R
def C_raft_Node_askPre (a0 : Option Addr) (a1 : KL [.int .i64, .int .i64, .int .i64, .int .i64, .int .i64, .int .i64, .int .i64, .bool, .sl]) (h : Heap) (R : Heap → Prop) : Prop := CallR Try.prog 28 [.pointer a0, .agg ⟨KL.vals [.int .i64, .int .i64, .int .i64, .int .i64, .int .i64, .int .i64, .int .i64, .bool, .sl] a1⟩] h [] R
def C_raft_Node_tellPre (a0 : Option Addr) (a1 : KL [.int .i64, .int .i64, .int .i64, .int .i64, .int .i64, .int .i64, .int .i64, .bool, .sl]) (h : Heap) (R : Heap → Prop) : Prop := CallR Try.prog 29 [.pointer a0, .agg ⟨KL.vals [.int .i64, .int .i64, .int .i64, .int .i64, .int .i64, .int .i64, .int .i64, .bool, .sl] a1⟩] h [] R
def C_raft_Node_follow (a0 : Option Addr) (a1 : Int) (a2 : Int) (h : Heap) (R : Heap → Prop) : Prop := CallR Try.prog 30 [.pointer a0, .int .i64 a1, .int .i64 a2] h [] R
def C_raft_Node_told (a0 : Option Addr) (a1 : Int) (a2 : Bool) (a3 : Int) (h : Heap) (R : Heap → Prop) : Prop := CallR Try.prog 31 [.pointer a0, .int .i64 a1, .bool a2, .int .i64 a3] h [] R
def C_raft_Node_askVote (a0 : Option Addr) (a1 : KL [.int .i64, .int .i64, .int .i64, .int .i64, .int .i64, .int .i64, .int .i64, .bool, .sl]) (h : Heap) (R : Heap → Prop) : Prop := CallR Try.prog 32 [.pointer a0, .agg ⟨KL.vals [.int .i64, .int .i64, .int .i64, .int .i64, .int .i64, .int .i64, .int .i64, .bool, .sl] a1⟩] h [] R
def C_raft_Node_tellVote (a0 : Option Addr) (a1 : KL [.int .i64, .int .i64, .int .i64, .int .i64, .int .i64, .int .i64, .int .i64, .bool, .sl]) (h : Heap) (R : Heap → Prop) : Prop := CallR Try.prog 33 [.pointer a0, .agg ⟨KL.vals [.int .i64, .int .i64, .int .i64, .int .i64, .int .i64, .int .i64, .int .i64, .bool, .sl] a1⟩] h [] R
def C_raft_Node_append (a0 : Option Addr) (a1 : KL [.int .i64, .int .i64, .int .i64, .int .i64, .int .i64, .int .i64, .int .i64, .bool, .sl]) (h : Heap) (R : Heap → Prop) : Prop := CallR Try.prog 34 [.pointer a0, .agg ⟨KL.vals [.int .i64, .int .i64, .int .i64, .int .i64, .int .i64, .int .i64, .int .i64, .bool, .sl] a1⟩] h [] R
def C_raft_Node_hears (a0 : Option Addr) (a1 : KL [.int .i64, .int .i64, .int .i64, .int .i64, .int .i64, .int .i64, .int .i64, .bool, .sl]) (h : Heap) (R : Heap → Prop) : Prop := CallR Try.prog 35 [.pointer a0, .agg ⟨KL.vals [.int .i64, .int .i64, .int .i64, .int .i64, .int .i64, .int .i64, .int .i64, .bool, .sl] a1⟩] h [] R
def C_log_Log_Last (a0 : Option Addr) (h : Heap) (R : Int → Int → Heap → Prop) : Prop := CallR Try.prog 36 [.pointer a0] h [.one (.int .i64), .one (.int .i64)] R
def C_log_Log_All (a0 : Option Addr) (h : Heap) (R : Sl → Heap → Prop) : Prop := CallR Try.prog 37 [.pointer a0] h [.one .sl] R
def C_slices_Clone_api_Entry_api_Entry (a0 : Sl) (h : Heap) (R : Sl → Heap → Prop) : Prop := CallR Try.prog 38 [.slice a0.a a0.n a0.c] h [.one .sl] R
def C_raft_Node_most (a0 : Option Addr) (a1 : Int) (h : Heap) (R : Bool → Heap → Prop) : Prop := CallR Try.prog 39 [.pointer a0, .int .u64 a1] h [.one .bool] R
def C_raft_Node_toAll (a0 : Option Addr) (h : Heap) (R : Heap → Prop) : Prop := CallR Try.prog 40 [.pointer a0] h [] R
def C_raft_Node_stands (a0 : Option Addr) (h : Heap) (R : Heap → Prop) : Prop := CallR Try.prog 41 [.pointer a0] h [] R
def C_raft_Node_all (a0 : Option Addr) (a1 : KL [.int .i64, .int .i64, .int .i64, .int .i64, .int .i64, .int .i64, .int .i64, .bool, .sl]) (h : Heap) (R : Heap → Prop) : Prop := CallR Try.prog 42 [.pointer a0, .agg ⟨KL.vals [.int .i64, .int .i64, .int .i64, .int .i64, .int .i64, .int .i64, .int .i64, .bool, .sl] a1⟩] h [] R
def C_log_Log_Add (a0 : Option Addr) (a1 : KL [.int .i64, .str]) (h : Heap) (R : Int → Heap → Prop) : Prop := CallR Try.prog 43 [.pointer a0, .agg ⟨KL.vals [.int .i64, .str] a1⟩] h [.one (.int .i64)] R
def C_raft_Node_dirty (a0 : Option Addr) (a1 : Int) (h : Heap) (R : Heap → Prop) : Prop := CallR Try.prog 44 [.pointer a0, .int .i64 a1] h [] R
def C_raft_Node_agree (a0 : Option Addr) (h : Heap) (R : Heap → Prop) : Prop := CallR Try.prog 45 [.pointer a0] h [] R
def C_raft_Node_counts_1 (a0 : KL [.int .i64, .str]) (a1 : Option Addr) (h : Heap) (R : Bool → Heap → Prop) : Prop := CallR Try.prog 46 [.agg ⟨KL.vals [.int .i64, .str] a0⟩, .pointer a1] h [.one .bool] R
def C_slices_ContainsFunc_api_Entry_api_Entry (a0 : Sl) (a1 : Value) (h : Heap) (R : Bool → Heap → Prop) : Prop := CallR Try.prog 47 [.slice a0.a a0.n a0.c, a1] h [.one .bool] R
def C_log_Log_Younger (a0 : Option Addr) (a1 : Int) (a2 : Int) (h : Heap) (R : Bool → Heap → Prop) : Prop := CallR Try.prog 48 [.pointer a0, .int .i64 a1, .int .i64 a2] h [.one .bool] R
def C_raft_Node_send (a0 : Option Addr) (a1 : Int) (a2 : KL [.int .i64, .int .i64, .int .i64, .int .i64, .int .i64, .int .i64, .int .i64, .bool, .sl]) (h : Heap) (R : Heap → Prop) : Prop := CallR Try.prog 49 [.pointer a0, .int .i64 a1, .agg ⟨KL.vals [.int .i64, .int .i64, .int .i64, .int .i64, .int .i64, .int .i64, .int .i64, .bool, .sl] a2⟩] h [] R
def C_raft_Node_leads (a0 : Option Addr) (h : Heap) (R : Heap → Prop) : Prop := CallR Try.prog 50 [.pointer a0] h [] R
def C_log_Log_Put (a0 : Option Addr) (a1 : Int) (a2 : Int) (a3 : Sl) (h : Heap) (R : Int → Int → Heap → Prop) : Prop := CallR Try.prog 51 [.pointer a0, .int .i64 a1, .int .i64 a2, .slice a3.a a3.n a3.c] h [.one (.int .i64), .one (.int .i64)] R
def C_raft_Node_to (a0 : Option Addr) (a1 : Int) (h : Heap) (R : Heap → Prop) : Prop := CallR Try.prog 52 [.pointer a0, .int .i64 a1] h [] R
def C_math_bits_OnesCount (a0 : Int) (h : Heap) (R : Int → Heap → Prop) : Prop := CallR Try.prog 53 [.int .u64 a0] h [.one (.int .i64)] R
def C_log_Log_Term (a0 : Option Addr) (a1 : Int) (h : Heap) (R : Int → Bool → Heap → Prop) : Prop := CallR Try.prog 54 [.pointer a0, .int .i64 a1] h [.one (.int .i64), .one .bool] R
def C_slices_IndexFunc_api_Entry_api_Entry (a0 : Sl) (a1 : Value) (h : Heap) (R : Int → Heap → Prop) : Prop := CallR Try.prog 55 [.slice a0.a a0.n a0.c, a1] h [.one (.int .i64)] R
def C_log_falls (a0 : Int) (a1 : Sl) (h : Heap) (R : Bool → Heap → Prop) : Prop := CallR Try.prog 56 [.int .i64 a0, .slice a1.a a1.n a1.c] h [.one .bool] R
def C_log_Log_known (a0 : Option Addr) (a1 : Int) (a2 : Sl) (h : Heap) (R : Int → Heap → Prop) : Prop := CallR Try.prog 57 [.pointer a0, .int .i64 a1, .slice a2.a a2.n a2.c] h [.one (.int .i64)] R
def C_math_bits_OnesCount32 (a0 : Int) (h : Heap) (R : Int → Heap → Prop) : Prop := CallR Try.prog 58 [.int .u32 a0] h [.one (.int .i64)] R
def C_math_bits_OnesCount64 (a0 : Int) (h : Heap) (R : Int → Heap → Prop) : Prop := CallR Try.prog 59 [.int .u64 a0] h [.one (.int .i64)] R
end Go.Proofs.Ytniojdaddolnfaa
