/- Printed by a program: what each function asks of the heap, that this is the reading of its code, and what follows for a call. -/
import Derived.Test.YtnognoiaakiepaaSC
import Derived.Test.YtnognoiaakiepaaVg
import Derived.Test.YtnognoiaakiepaaProg
set_option maxRecDepth 1000000
namespace Go.Proofs.Ytnognoiaakiepaa
open Go

theorem useG_SX {an : List (Nat × Slots)} {f : FuncId} {fn : Func} {args : List Value} {h : Heap} {ss : List Sh} {R : TH (Heap → Prop) ss} {S : Prop} (hf : Try.prog.funcs[f]? = some fn) (hb : codeOk fn args.length = true) (e : VG Try.prog an fn args h ss R = S) (hs : S) : CallR Try.prog f args h ss R := VG_sound (an := an) mixed_ hf hb (cast e.symm hs)
/-- wire.Command -/
def S_wire_Command (c : KL [.int .i64, .int .i64, .int .i64, .int .i64, .int .i64, .str, .str, .int .i64, .bool]) (h : Heap) (R : Sl → Int → Heap → Prop) : Prop :=
  Alloc h (.cells #[.int .i64 c.1, .int .i64 c.2.1, .int .i64 c.2.2.1, .int .i64 c.2.2.2.1, .int .i64 c.2.2.2.2.1, .string c.2.2.2.2.2.1, .string c.2.2.2.2.2.2.1, .int .i64 c.2.2.2.2.2.2.2.1, .bool c.2.2.2.2.2.2.2.2.1] 56) fun c1 h_ =>
  Ld .str h_ (c1.add 5) fun (Key : ByteArray) =>
  (bif decide ((Key.size : Int) > 16) then
    R ⟨none, 0, 0⟩ 4 h_
  else
    Ld .str h_ (c1.add 6) fun (Value_ : ByteArray) =>
    (bif decide ((Value_.size : Int) > 32) then
      R ⟨none, 0, 0⟩ 4 h_
    else
      Ld (.int .i64) h_ c1 fun (Kind : Int) =>
      Ld (.int .i64) h_ (c1.add 1) fun (Tx : Int) =>
      Ld (.int .i64) h_ (c1.add 2) fun (Attempt : Int) =>
      Ld (.int .i64) h_ (c1.add 3) fun (Stamp : Int) =>
      Ld (.int .i64) h_ (c1.add 4) fun (Op_ : Int) =>
      Alloc h_ (.cells #[.int .i64 Kind, .int .i64 Tx, .int .i64 Attempt, .int .i64 Stamp, .int .i64 Op_] 3) fun b h_1 =>
      C_wire_numbers ⟨none, 0, 0⟩ ⟨some b, 5, 5⟩ h_1 fun (r : Sl) h_2 =>
      Ld .str h_2 (c1.add 5) fun (Key1 : ByteArray) =>
      Ld .str h_2 (c1.add 6) fun (Value_1 : ByteArray) =>
      C_word_Text r Key1 h_2 fun (r1 : Sl) h_3 =>
      (Ld .str h_3 (c1.add 6) fun (Value_2 : ByteArray) => (.string Value_2 : Value) = .string Value_1) ∧
      C_word_Text r1 Value_1 h_3 fun (r2 : Sl) h_4 =>
      Ld (.int .i64) h_4 (c1.add 7) fun (Mode : Int) =>
      Ld .bool h_4 (c1.add 8) fun (Yes : Bool) =>
      C_word_Int r2 Mode h_4 fun (r3 : Sl) h_5 =>
      (Ld .bool h_5 (c1.add 8) fun (Yes1 : Bool) => (.bool Yes1 : Value) = .bool Yes) ∧
      C_word_Bool r3 Yes h_5 fun (r4 : Sl) h_6 =>
      R r4 0 h_6
    )
  )
theorem E_wire_Command (c : KL [.int .i64, .int .i64, .int .i64, .int .i64, .int .i64, .str, .str, .int .i64, .bool]) (h : Heap) (R : Sl → Int → Heap → Prop) :
    VF Try.prog [] Try.f33 [.agg ⟨KL.vals [.int .i64, .int .i64, .int .i64, .int .i64, .int .i64, .str, .str, .int .i64, .bool] c⟩] h [.one .sl, .one (.int .i64)] R = S_wire_Command c h R := by kernel_rfl
theorem A_wire_Command {c : KL [.int .i64, .int .i64, .int .i64, .int .i64, .int .i64, .str, .str, .int .i64, .bool]} {h : Heap} {R : Sl → Int → Heap → Prop} (hs : S_wire_Command c h R) : C_wire_Command c h R :=
  use_ Try.func33 (by kernel_rfl) (E_wire_Command c h R) hs

/-- kissinggateref18.Command -/
def S_ref18_Command (c : KL [.int .i64, .int .i64, .int .i64, .int .i64, .int .i64, .str, .str, .int .i64, .bool]) (h : Heap) (R : ByteArray → Bool → Heap → Prop) : Prop :=
  Alloc h (.cells #[.int .i64 c.1, .int .i64 c.2.1, .int .i64 c.2.2.1, .int .i64 c.2.2.2.1, .int .i64 c.2.2.2.2.1, .string c.2.2.2.2.2.1, .string c.2.2.2.2.2.2.1, .int .i64 c.2.2.2.2.2.2.2.1, .bool c.2.2.2.2.2.2.2.2.1] 56) fun c1 h_ =>
  Ld (.int .i64) h_ c1 fun (Kind : Int) =>
  Ld (.int .i64) h_ (c1.add 1) fun (Tx : Int) =>
  Ld (.int .i64) h_ (c1.add 2) fun (Attempt : Int) =>
  Ld (.int .i64) h_ (c1.add 3) fun (Stamp : Int) =>
  Ld (.int .i64) h_ (c1.add 4) fun (Op_ : Int) =>
  C_ref01_Int Kind h_ fun (r : ByteArray) h_1 =>
  (Ld (.int .i64) h_1 (c1.add 1) fun (Tx1 : Int) => (.int .i64 Tx1 : Value) = .int .i64 Tx) ∧
  (Ld (.int .i64) h_1 (c1.add 2) fun (Attempt1 : Int) => (.int .i64 Attempt1 : Value) = .int .i64 Attempt) ∧
  (Ld (.int .i64) h_1 (c1.add 3) fun (Stamp1 : Int) => (.int .i64 Stamp1 : Value) = .int .i64 Stamp) ∧
  (Ld (.int .i64) h_1 (c1.add 4) fun (Op_1 : Int) => (.int .i64 Op_1 : Value) = .int .i64 Op_) ∧
  C_ref01_Int Tx h_1 fun (r1 : ByteArray) h_2 =>
  (Ld (.int .i64) h_2 (c1.add 2) fun (Attempt2 : Int) => (.int .i64 Attempt2 : Value) = .int .i64 Attempt) ∧
  (Ld (.int .i64) h_2 (c1.add 3) fun (Stamp2 : Int) => (.int .i64 Stamp2 : Value) = .int .i64 Stamp) ∧
  (Ld (.int .i64) h_2 (c1.add 4) fun (Op_2 : Int) => (.int .i64 Op_2 : Value) = .int .i64 Op_) ∧
  Cat r r1 fun str =>
  C_ref01_Int Attempt h_2 fun (r2 : ByteArray) h_3 =>
  (Ld (.int .i64) h_3 (c1.add 3) fun (Stamp3 : Int) => (.int .i64 Stamp3 : Value) = .int .i64 Stamp) ∧
  (Ld (.int .i64) h_3 (c1.add 4) fun (Op_3 : Int) => (.int .i64 Op_3 : Value) = .int .i64 Op_) ∧
  Cat str r2 fun str1 =>
  C_ref01_Int Stamp h_3 fun (r3 : ByteArray) h_4 =>
  (Ld (.int .i64) h_4 (c1.add 4) fun (Op_4 : Int) => (.int .i64 Op_4 : Value) = .int .i64 Op_) ∧
  Cat str1 r3 fun str2 =>
  C_ref01_Int Op_ h_4 fun (r4 : ByteArray) h_5 =>
  Cat str2 r4 fun str3 =>
  Ld .str h_5 (c1.add 5) fun (Key : ByteArray) =>
  Ld .str h_5 (c1.add 6) fun (Value_ : ByteArray) =>
  Ld (.int .i64) h_5 (c1.add 7) fun (Mode : Int) =>
  Ld .bool h_5 (c1.add 8) fun (Yes : Bool) =>
  C_ref01_Text Key h_5 fun (r5 : ByteArray) h_6 =>
  (Ld .str h_6 (c1.add 6) fun (Value_1 : ByteArray) => (.string Value_1 : Value) = .string Value_) ∧
  (Ld (.int .i64) h_6 (c1.add 7) fun (Mode1 : Int) => (.int .i64 Mode1 : Value) = .int .i64 Mode) ∧
  (Ld .bool h_6 (c1.add 8) fun (Yes1 : Bool) => (.bool Yes1 : Value) = .bool Yes) ∧
  Cat str3 r5 fun str4 =>
  C_ref01_Text Value_ h_6 fun (r6 : ByteArray) h_7 =>
  (Ld (.int .i64) h_7 (c1.add 7) fun (Mode2 : Int) => (.int .i64 Mode2 : Value) = .int .i64 Mode) ∧
  (Ld .bool h_7 (c1.add 8) fun (Yes2 : Bool) => (.bool Yes2 : Value) = .bool Yes) ∧
  Cat str4 r6 fun str5 =>
  C_ref01_Int Mode h_7 fun (r7 : ByteArray) h_8 =>
  (Ld .bool h_8 (c1.add 8) fun (Yes3 : Bool) => (.bool Yes3 : Value) = .bool Yes) ∧
  Cat str5 r7 fun str6 =>
  C_ref01_Bool Yes h_8 fun (r8 : ByteArray) h_9 =>
  Cat str6 r8 fun str7 =>
  Ld .str h_9 (c1.add 5) fun (Key1 : ByteArray) =>
  (bif decide ((Key1.size : Int) ≤ 16) then
    Ld .str h_9 (c1.add 6) fun (Value_2 : ByteArray) =>
    R str7 (decide ((Value_2.size : Int) ≤ 32)) h_9
  else
    R str7 false h_9
  )
theorem E_ref18_Command (c : KL [.int .i64, .int .i64, .int .i64, .int .i64, .int .i64, .str, .str, .int .i64, .bool]) (h : Heap) (R : ByteArray → Bool → Heap → Prop) :
    VF Try.prog [] Try.f34 [.agg ⟨KL.vals [.int .i64, .int .i64, .int .i64, .int .i64, .int .i64, .str, .str, .int .i64, .bool] c⟩] h [.one .str, .one .bool] R = S_ref18_Command c h R := by kernel_rfl
theorem A_ref18_Command {c : KL [.int .i64, .int .i64, .int .i64, .int .i64, .int .i64, .str, .str, .int .i64, .bool]} {h : Heap} {R : ByteArray → Bool → Heap → Prop} (hs : S_ref18_Command c h R) : C_ref18_Command c h R :=
  use_ Try.func34 (by kernel_rfl) (E_ref18_Command c h R) hs

/-- wire.ReadCommand -/
def S_wire_ReadCommand (b : Sl) (h : Heap) (R : KL [.int .i64, .int .i64, .int .i64, .int .i64, .int .i64, .str, .str, .int .i64, .bool] → Int → Heap → Prop) : Prop :=
  Alloc h (.cells #[.int .i64 0, .int .i64 0, .int .i64 0, .int .i64 0, .int .i64 0, .string (⟨#[]⟩ : ByteArray), .string (⟨#[]⟩ : ByteArray), .int .i64 0, .bool false] 56) fun p h_ =>
  C_word_Read b h_ fun (r : Option Addr) h_1 =>
  C_wire_some r 5 h_1 fun (r1 : Sl) h_2 =>
  Ix r1 0 1 fun e =>
  Ld (.int .i64) h_2 e fun (x : Int) =>
  Ix r1 1 1 fun e1 =>
  Ld (.int .i64) h_2 e1 fun (x1 : Int) =>
  Ix r1 2 1 fun e2 =>
  Ld (.int .i64) h_2 e2 fun (x2 : Int) =>
  Ix r1 3 1 fun e3 =>
  Ld (.int .i64) h_2 e3 fun (x3 : Int) =>
  Ix r1 4 1 fun e4 =>
  Ld (.int .i64) h_2 e4 fun (x4 : Int) =>
  Alloc h_2 (.cells #[.int .i64 0, .int .i64 0, .int .i64 0, .int .i64 0, .int .i64 0, .string (⟨#[]⟩ : ByteArray), .string (⟨#[]⟩ : ByteArray), .int .i64 0, .bool false] 56) fun c h_3 =>
  (Ld (.int .i64) h_3 e fun (x5 : Int) => (.int .i64 x5 : Value) = .int .i64 x) ∧
  (Ld (.int .i64) h_3 e1 fun (x6 : Int) => (.int .i64 x6 : Value) = .int .i64 x1) ∧
  (Ld (.int .i64) h_3 e2 fun (x7 : Int) => (.int .i64 x7 : Value) = .int .i64 x2) ∧
  (Ld (.int .i64) h_3 e3 fun (x8 : Int) => (.int .i64 x8 : Value) = .int .i64 x3) ∧
  (Ld (.int .i64) h_3 e4 fun (x9 : Int) => (.int .i64 x9 : Value) = .int .i64 x4) ∧
  St h_3 c (.int .i64 x) fun h_4 =>
  St h_4 (c.add 1) (.int .i64 x1) fun h_5 =>
  St h_5 (c.add 2) (.int .i64 x2) fun h_6 =>
  St h_6 (c.add 3) (.int .i64 x3) fun h_7 =>
  St h_7 (c.add 4) (.int .i64 x4) fun h_8 =>
  St h_8 (c.add 5) (.string (⟨#[]⟩ : ByteArray)) fun h_9 =>
  St h_9 (c.add 6) (.string (⟨#[]⟩ : ByteArray)) fun h_10 =>
  St h_10 (c.add 7) (.int .i64 0) fun h_11 =>
  St h_11 (c.add 8) (.bool false) fun h_12 =>
  C_word_Reader_Text r 16 h_12 fun (r2 : ByteArray) h_13 =>
  C_word_Reader_Text r 32 h_13 fun (r3 : ByteArray) h_14 =>
  St h_14 (c.add 5) (.string r2) fun h_15 =>
  St h_15 (c.add 6) (.string r3) fun h_16 =>
  C_wire_number r h_16 fun (r4 : Int) h_17 =>
  C_word_Reader_Bool r h_17 fun (r5 : Bool) h_18 =>
  St h_18 (c.add 7) (.int .i64 r4) fun h_19 =>
  St h_19 (c.add 8) (.bool r5) fun h_20 =>
  Ld (.int .i64) h_20 c fun (x_Kind : Int) =>
  Ld (.int .i64) h_20 (c.add 1) fun (x_Tx : Int) =>
  Ld (.int .i64) h_20 (c.add 2) fun (x_Attempt : Int) =>
  Ld (.int .i64) h_20 (c.add 3) fun (x_Stamp : Int) =>
  Ld (.int .i64) h_20 (c.add 4) fun (x_Op : Int) =>
  Ld .str h_20 (c.add 5) fun (x_Key : ByteArray) =>
  Ld .str h_20 (c.add 6) fun (x_Value : ByteArray) =>
  Ld (.int .i64) h_20 (c.add 7) fun (x_Mode : Int) =>
  Ld .bool h_20 (c.add 8) fun (x_Yes : Bool) =>
  C_wire_whole_api_Command r (x_Kind, x_Tx, x_Attempt, x_Stamp, x_Op, x_Key, x_Value, x_Mode, x_Yes, ()) h_20 fun (r6 : KL [.int .i64, .int .i64, .int .i64, .int .i64, .int .i64, .str, .str, .int .i64, .bool]) (r7 : Int) h_21 =>
  St h_21 p (.int .i64 r6.1) fun h_22 =>
  St h_22 (p.add 1) (.int .i64 r6.2.1) fun h_23 =>
  St h_23 (p.add 2) (.int .i64 r6.2.2.1) fun h_24 =>
  St h_24 (p.add 3) (.int .i64 r6.2.2.2.1) fun h_25 =>
  St h_25 (p.add 4) (.int .i64 r6.2.2.2.2.1) fun h_26 =>
  St h_26 (p.add 5) (.string r6.2.2.2.2.2.1) fun h_27 =>
  St h_27 (p.add 6) (.string r6.2.2.2.2.2.2.1) fun h_28 =>
  St h_28 (p.add 7) (.int .i64 r6.2.2.2.2.2.2.2.1) fun h_29 =>
  St h_29 (p.add 8) (.bool r6.2.2.2.2.2.2.2.2.1) fun h_30 =>
  Ld (.int .i64) h_30 p fun (r_0 : Int) =>
  Ld (.int .i64) h_30 (p.add 1) fun (r_1 : Int) =>
  Ld (.int .i64) h_30 (p.add 2) fun (r_2 : Int) =>
  Ld (.int .i64) h_30 (p.add 3) fun (r_3 : Int) =>
  Ld (.int .i64) h_30 (p.add 4) fun (r_4 : Int) =>
  Ld .str h_30 (p.add 5) fun (r_5 : ByteArray) =>
  Ld .str h_30 (p.add 6) fun (r_6 : ByteArray) =>
  Ld (.int .i64) h_30 (p.add 7) fun (r_7 : Int) =>
  Ld .bool h_30 (p.add 8) fun (r_8 : Bool) =>
  R (r_0, r_1, r_2, r_3, r_4, r_5, r_6, r_7, r_8, ()) r7 h_30
theorem E_wire_ReadCommand (b : Sl) (h : Heap) (R : KL [.int .i64, .int .i64, .int .i64, .int .i64, .int .i64, .str, .str, .int .i64, .bool] → Int → Heap → Prop) :
    VG Try.prog [] Try.f35 [.slice b.a b.n b.c] h [.agg [.int .i64, .int .i64, .int .i64, .int .i64, .int .i64, .str, .str, .int .i64, .bool], .one (.int .i64)] R = S_wire_ReadCommand b h R := by kernel_rfl
theorem A_wire_ReadCommand {b : Sl} {h : Heap} {R : KL [.int .i64, .int .i64, .int .i64, .int .i64, .int .i64, .str, .str, .int .i64, .bool] → Int → Heap → Prop} (hs : S_wire_ReadCommand b h R) : C_wire_ReadCommand b h R :=
  useG_SX Try.func35 (by kernel_rfl) (E_wire_ReadCommand b h R) hs

/-- wire.Reply -/
def S_wire_Reply (r : KL [.int .i64, .int .i64, .str, .bool]) (h : Heap) (R : Sl → Int → Heap → Prop) : Prop :=
  Alloc h (.cells #[.int .i64 r.1, .int .i64 r.2.1, .string r.2.2.1, .bool r.2.2.2.1] 58) fun r1 h_ =>
  Ld .str h_ (r1.add 2) fun (Value_ : ByteArray) =>
  (bif decide ((Value_.size : Int) > 32) then
    R ⟨none, 0, 0⟩ 4 h_
  else
    Ld (.int .i64) h_ r1 fun (Code : Int) =>
    Ld (.int .i64) h_ (r1.add 1) fun (State : Int) =>
    Alloc h_ (.cells #[.int .i64 Code, .int .i64 State] 3) fun b h_1 =>
    C_wire_numbers ⟨none, 0, 0⟩ ⟨some b, 2, 2⟩ h_1 fun (r2 : Sl) h_2 =>
    Ld .str h_2 (r1.add 2) fun (Value_1 : ByteArray) =>
    Ld .bool h_2 (r1.add 3) fun (Has : Bool) =>
    C_word_Text r2 Value_1 h_2 fun (r3 : Sl) h_3 =>
    (Ld .bool h_3 (r1.add 3) fun (Has1 : Bool) => (.bool Has1 : Value) = .bool Has) ∧
    C_word_Bool r3 Has h_3 fun (r4 : Sl) h_4 =>
    R r4 0 h_4
  )
theorem E_wire_Reply (r : KL [.int .i64, .int .i64, .str, .bool]) (h : Heap) (R : Sl → Int → Heap → Prop) :
    VF Try.prog [] Try.f36 [.agg ⟨KL.vals [.int .i64, .int .i64, .str, .bool] r⟩] h [.one .sl, .one (.int .i64)] R = S_wire_Reply r h R := by kernel_rfl
theorem A_wire_Reply {r : KL [.int .i64, .int .i64, .str, .bool]} {h : Heap} {R : Sl → Int → Heap → Prop} (hs : S_wire_Reply r h R) : C_wire_Reply r h R :=
  use_ Try.func36 (by kernel_rfl) (E_wire_Reply r h R) hs

/-- kissinggateref18.Reply -/
def S_ref18_Reply (r : KL [.int .i64, .int .i64, .str, .bool]) (h : Heap) (R : ByteArray → Bool → Heap → Prop) : Prop :=
  Alloc h (.cells #[.int .i64 r.1, .int .i64 r.2.1, .string r.2.2.1, .bool r.2.2.2.1] 58) fun r1 h_ =>
  Ld (.int .i64) h_ r1 fun (Code : Int) =>
  Ld (.int .i64) h_ (r1.add 1) fun (State : Int) =>
  Ld .str h_ (r1.add 2) fun (Value_ : ByteArray) =>
  Ld .bool h_ (r1.add 3) fun (Has : Bool) =>
  Ld .str h_ (r1.add 2) fun (Value_1 : ByteArray) =>
  C_ref01_Int Code h_ fun (r2 : ByteArray) h_1 =>
  (Ld (.int .i64) h_1 (r1.add 1) fun (State1 : Int) => (.int .i64 State1 : Value) = .int .i64 State) ∧
  (Ld .str h_1 (r1.add 2) fun (Value_2 : ByteArray) => (.string Value_2 : Value) = .string Value_) ∧
  (Ld .bool h_1 (r1.add 3) fun (Has1 : Bool) => (.bool Has1 : Value) = .bool Has) ∧
  (Ld .str h_1 (r1.add 2) fun (Value_3 : ByteArray) => (.string Value_3 : Value) = .string Value_1) ∧
  C_ref01_Int State h_1 fun (r3 : ByteArray) h_2 =>
  (Ld .str h_2 (r1.add 2) fun (Value_4 : ByteArray) => (.string Value_4 : Value) = .string Value_) ∧
  (Ld .bool h_2 (r1.add 3) fun (Has2 : Bool) => (.bool Has2 : Value) = .bool Has) ∧
  (Ld .str h_2 (r1.add 2) fun (Value_5 : ByteArray) => (.string Value_5 : Value) = .string Value_1) ∧
  Cat r2 r3 fun str =>
  C_ref01_Text Value_ h_2 fun (r4 : ByteArray) h_3 =>
  (Ld .bool h_3 (r1.add 3) fun (Has3 : Bool) => (.bool Has3 : Value) = .bool Has) ∧
  (Ld .str h_3 (r1.add 2) fun (Value_6 : ByteArray) => (.string Value_6 : Value) = .string Value_1) ∧
  Cat str r4 fun str1 =>
  C_ref01_Bool Has h_3 fun (r5 : ByteArray) h_4 =>
  (Ld .str h_4 (r1.add 2) fun (Value_7 : ByteArray) => (.string Value_7 : Value) = .string Value_1) ∧
  Cat str1 r5 fun str2 =>
  R str2 (decide ((Value_1.size : Int) ≤ 32)) h_4
theorem E_ref18_Reply (r : KL [.int .i64, .int .i64, .str, .bool]) (h : Heap) (R : ByteArray → Bool → Heap → Prop) :
    VF Try.prog [] Try.f37 [.agg ⟨KL.vals [.int .i64, .int .i64, .str, .bool] r⟩] h [.one .str, .one .bool] R = S_ref18_Reply r h R := by kernel_rfl
theorem A_ref18_Reply {r : KL [.int .i64, .int .i64, .str, .bool]} {h : Heap} {R : ByteArray → Bool → Heap → Prop} (hs : S_ref18_Reply r h R) : C_ref18_Reply r h R :=
  use_ Try.func37 (by kernel_rfl) (E_ref18_Reply r h R) hs

/-- wire.ReadReply -/
def S_wire_ReadReply (b : Sl) (h : Heap) (R : KL [.int .i64, .int .i64, .str, .bool] → Int → Heap → Prop) : Prop :=
  Alloc h (.cells #[.int .i64 0, .int .i64 0, .string (⟨#[]⟩ : ByteArray), .bool false] 58) fun p h_ =>
  C_word_Read b h_ fun (r : Option Addr) h_1 =>
  Alloc h_1 (.cells #[.int .i64 0, .int .i64 0, .string (⟨#[]⟩ : ByteArray), .bool false] 58) fun x h_2 =>
  C_wire_number r h_2 fun (r1 : Int) h_3 =>
  C_wire_number r h_3 fun (r2 : Int) h_4 =>
  St h_4 x (.int .i64 r1) fun h_5 =>
  St h_5 (x.add 1) (.int .i64 r2) fun h_6 =>
  C_word_Reader_Text r 32 h_6 fun (r3 : ByteArray) h_7 =>
  C_word_Reader_Bool r h_7 fun (r4 : Bool) h_8 =>
  St h_8 (x.add 2) (.string r3) fun h_9 =>
  St h_9 (x.add 3) (.bool r4) fun h_10 =>
  Ld (.int .i64) h_10 x fun (x_Code : Int) =>
  Ld (.int .i64) h_10 (x.add 1) fun (x_State : Int) =>
  Ld .str h_10 (x.add 2) fun (x_Value : ByteArray) =>
  Ld .bool h_10 (x.add 3) fun (x_Has : Bool) =>
  C_wire_whole_api_Reply r (x_Code, x_State, x_Value, x_Has, ()) h_10 fun (r5 : KL [.int .i64, .int .i64, .str, .bool]) (r6 : Int) h_11 =>
  St h_11 p (.int .i64 r5.1) fun h_12 =>
  St h_12 (p.add 1) (.int .i64 r5.2.1) fun h_13 =>
  St h_13 (p.add 2) (.string r5.2.2.1) fun h_14 =>
  St h_14 (p.add 3) (.bool r5.2.2.2.1) fun h_15 =>
  Ld (.int .i64) h_15 p fun (r_0 : Int) =>
  Ld (.int .i64) h_15 (p.add 1) fun (r_1 : Int) =>
  Ld .str h_15 (p.add 2) fun (r_2 : ByteArray) =>
  Ld .bool h_15 (p.add 3) fun (r_3 : Bool) =>
  R (r_0, r_1, r_2, r_3, ()) r6 h_15
theorem E_wire_ReadReply (b : Sl) (h : Heap) (R : KL [.int .i64, .int .i64, .str, .bool] → Int → Heap → Prop) :
    VG Try.prog [] Try.f38 [.slice b.a b.n b.c] h [.agg [.int .i64, .int .i64, .str, .bool], .one (.int .i64)] R = S_wire_ReadReply b h R := by kernel_rfl
theorem A_wire_ReadReply {b : Sl} {h : Heap} {R : KL [.int .i64, .int .i64, .str, .bool] → Int → Heap → Prop} (hs : S_wire_ReadReply b h R) : C_wire_ReadReply b h R :=
  useG_SX Try.func38 (by kernel_rfl) (E_wire_ReadReply b h R) hs

/-- wire.ReadPacket -/
def S_wire_ReadPacket (b : Sl) (h : Heap) (R : Int → Sl → Int → Heap → Prop) : Prop :=
  C_frame_Whole b h fun (r : Sl) (r1 : Int) h_ =>
  (bif r1 != 0 then
    R 0 ⟨none, 0, 0⟩ r1 h_
  else
    (bif (r.n : Int) == 0 then
      R 0 ⟨none, 0, 0⟩ 2 h_
    else
      Ix r 0 1 fun e =>
      Ld (.int .u8) h_ e fun (x : Int) =>
      Cut Try.prog 22 r (some (.int .i64 1)) none none fun s =>
      R x s 0 h_
    )
  )
theorem E_wire_ReadPacket (b : Sl) (h : Heap) (R : Int → Sl → Int → Heap → Prop) :
    VF Try.prog [] Try.f39 [.slice b.a b.n b.c] h [.one (.int .u8), .one .sl, .one (.int .i64)] R = S_wire_ReadPacket b h R := by kernel_rfl
theorem A_wire_ReadPacket {b : Sl} {h : Heap} {R : Int → Sl → Int → Heap → Prop} (hs : S_wire_ReadPacket b h R) : C_wire_ReadPacket b h R :=
  use_ Try.func39 (by kernel_rfl) (E_wire_ReadPacket b h R) hs

/-- kissinggateref18.ReadPacket -/
def S_ref18_ReadPacket (b : Sl) (h : Heap) (R : Int → ByteArray → Int → Heap → Prop) : Prop :=
  C_ref03_Take b h fun (r : Sl) (r1 : Int) (r2 : Int) h_ =>
  (bif r2 != 0 then
    R 0 (⟨#[]⟩ : ByteArray) r2 h_
  else
    (bif decide (r1 < (b.n : Int)) then
      R 0 (⟨#[]⟩ : ByteArray) 2 h_
    else
      (bif (r.n : Int) == 0 then
        R 0 (⟨#[]⟩ : ByteArray) 2 h_
      else
        Ix r 0 1 fun e =>
        Ld (.int .u8) h_ e fun (x : Int) =>
        Cut Try.prog 22 r (some (.int .i64 1)) none none fun s =>
        ToS Try.prog 22 9 s h_ fun str =>
        R x str 0 h_
      )
    )
  )
theorem E_ref18_ReadPacket (b : Sl) (h : Heap) (R : Int → ByteArray → Int → Heap → Prop) :
    VF Try.prog [] Try.f40 [.slice b.a b.n b.c] h [.one (.int .u8), .one .str, .one (.int .i64)] R = S_ref18_ReadPacket b h R := by kernel_rfl
theorem A_ref18_ReadPacket {b : Sl} {h : Heap} {R : Int → ByteArray → Int → Heap → Prop} (hs : S_ref18_ReadPacket b h R) : C_ref18_ReadPacket b h R :=
  use_ Try.func40 (by kernel_rfl) (E_ref18_ReadPacket b h R) hs

/-- wire.Packet -/
def S_wire_Packet (kind : Int) (payload : Sl) (h : Heap) (R : Sl → Int → Heap → Prop) : Prop :=
  Alloc h (.cells #[.int .u8 kind] 5) fun b h_ =>
  App Try.prog 22 22 ⟨some b, 1, 1⟩ payload h_ fun s h_1 =>
  C_frame_Put ⟨none, 0, 0⟩ s h_1 fun (r : Sl) (r1 : Int) h_2 =>
  R r r1 h_2
theorem E_wire_Packet (kind : Int) (payload : Sl) (h : Heap) (R : Sl → Int → Heap → Prop) :
    VF Try.prog [] Try.f41 [.int .u8 kind, .slice payload.a payload.n payload.c] h [.one .sl, .one (.int .i64)] R = S_wire_Packet kind payload h R := by kernel_rfl
theorem A_wire_Packet {kind : Int} {payload : Sl} {h : Heap} {R : Sl → Int → Heap → Prop} (hs : S_wire_Packet kind payload h R) : C_wire_Packet kind payload h R :=
  use_ Try.func41 (by kernel_rfl) (E_wire_Packet kind payload h R) hs

/-- kissinggateref18.ReadCommand -/
def S_ref18_ReadCommand (s : ByteArray) (h : Heap) (R : KL [.int .i64, .int .i64, .int .i64, .int .i64, .int .i64, .str, .str, .int .i64, .bool] → Bool → Heap → Prop) : Prop :=
  Alloc h (.cells #[.int .i64 0, .int .i64 0, .int .i64 0, .int .i64 0, .int .i64 0, .string (⟨#[]⟩ : ByteArray), .string (⟨#[]⟩ : ByteArray), .int .i64 0, .bool false] 56) fun p h_ =>
  Alloc h_ (.cells #[.string s, .bool false] 152) fun p1 h_1 =>
  Alloc h_1 (.cells #[.int .i64 0, .int .i64 0, .int .i64 0, .int .i64 0, .int .i64 0, .string (⟨#[]⟩ : ByteArray), .string (⟨#[]⟩ : ByteArray), .int .i64 0, .bool false] 56) fun c h_2 =>
  St h_2 c (.int .i64 0) fun h_3 =>
  St h_3 (c.add 1) (.int .i64 0) fun h_4 =>
  St h_4 (c.add 2) (.int .i64 0) fun h_5 =>
  St h_5 (c.add 3) (.int .i64 0) fun h_6 =>
  St h_6 (c.add 4) (.int .i64 0) fun h_7 =>
  St h_7 (c.add 5) (.string (⟨#[]⟩ : ByteArray)) fun h_8 =>
  St h_8 (c.add 6) (.string (⟨#[]⟩ : ByteArray)) fun h_9 =>
  St h_9 (c.add 7) (.int .i64 0) fun h_10 =>
  St h_10 (c.add 8) (.bool false) fun h_11 =>
  C_ref01_Reader_Int (some p1) (-9223372036854775808) 9223372036854775807 h_11 fun (r : Int) h_12 =>
  St h_12 c (.int .i64 r) fun h_13 =>
  C_ref01_Reader_Int (some p1) (-9223372036854775808) 9223372036854775807 h_13 fun (r1 : Int) h_14 =>
  St h_14 (c.add 1) (.int .i64 r1) fun h_15 =>
  C_ref01_Reader_Int (some p1) (-9223372036854775808) 9223372036854775807 h_15 fun (r2 : Int) h_16 =>
  St h_16 (c.add 2) (.int .i64 r2) fun h_17 =>
  C_ref01_Reader_Int (some p1) (-9223372036854775808) 9223372036854775807 h_17 fun (r3 : Int) h_18 =>
  St h_18 (c.add 3) (.int .i64 r3) fun h_19 =>
  C_ref01_Reader_Int (some p1) (-9223372036854775808) 9223372036854775807 h_19 fun (r4 : Int) h_20 =>
  St h_20 (c.add 4) (.int .i64 r4) fun h_21 =>
  C_ref01_Reader_Text (some p1) 16 h_21 fun (r5 : ByteArray) h_22 =>
  St h_22 (c.add 5) (.string r5) fun h_23 =>
  C_ref01_Reader_Text (some p1) 32 h_23 fun (r6 : ByteArray) h_24 =>
  St h_24 (c.add 6) (.string r6) fun h_25 =>
  C_ref01_Reader_Int (some p1) (-9223372036854775808) 9223372036854775807 h_25 fun (r7 : Int) h_26 =>
  St h_26 (c.add 7) (.int .i64 r7) fun h_27 =>
  C_ref01_Reader_Bool (some p1) h_27 fun (r8 : Bool) h_28 =>
  St h_28 (c.add 8) (.bool r8) fun h_29 =>
  Nn (some p1) fun p2 =>
  Ld .bool h_29 (p2.add 1) fun (Bad : Bool) =>
  (bif Bad then
    St h_29 p (.int .i64 0) fun h_30 =>
    St h_30 (p.add 1) (.int .i64 0) fun h_31 =>
    St h_31 (p.add 2) (.int .i64 0) fun h_32 =>
    St h_32 (p.add 3) (.int .i64 0) fun h_33 =>
    St h_33 (p.add 4) (.int .i64 0) fun h_34 =>
    St h_34 (p.add 5) (.string (⟨#[]⟩ : ByteArray)) fun h_35 =>
    St h_35 (p.add 6) (.string (⟨#[]⟩ : ByteArray)) fun h_36 =>
    St h_36 (p.add 7) (.int .i64 0) fun h_37 =>
    St h_37 (p.add 8) (.bool false) fun h_38 =>
    Ld (.int .i64) h_38 p fun (r_0 : Int) =>
    Ld (.int .i64) h_38 (p.add 1) fun (r_1 : Int) =>
    Ld (.int .i64) h_38 (p.add 2) fun (r_2 : Int) =>
    Ld (.int .i64) h_38 (p.add 3) fun (r_3 : Int) =>
    Ld (.int .i64) h_38 (p.add 4) fun (r_4 : Int) =>
    Ld .str h_38 (p.add 5) fun (r_5 : ByteArray) =>
    Ld .str h_38 (p.add 6) fun (r_6 : ByteArray) =>
    Ld (.int .i64) h_38 (p.add 7) fun (r_7 : Int) =>
    Ld .bool h_38 (p.add 8) fun (r_8 : Bool) =>
    R (r_0, r_1, r_2, r_3, r_4, r_5, r_6, r_7, r_8, ()) false h_38
  else
    Nn (some p1) fun p3 =>
    Ld .str h_29 p3 fun (S : ByteArray) =>
    (bif !(S.toList == (⟨#[]⟩ : ByteArray).toList) then
      St h_29 p (.int .i64 0) fun h_39 =>
      St h_39 (p.add 1) (.int .i64 0) fun h_40 =>
      St h_40 (p.add 2) (.int .i64 0) fun h_41 =>
      St h_41 (p.add 3) (.int .i64 0) fun h_42 =>
      St h_42 (p.add 4) (.int .i64 0) fun h_43 =>
      St h_43 (p.add 5) (.string (⟨#[]⟩ : ByteArray)) fun h_44 =>
      St h_44 (p.add 6) (.string (⟨#[]⟩ : ByteArray)) fun h_45 =>
      St h_45 (p.add 7) (.int .i64 0) fun h_46 =>
      St h_46 (p.add 8) (.bool false) fun h_47 =>
      Ld (.int .i64) h_47 p fun (r_01 : Int) =>
      Ld (.int .i64) h_47 (p.add 1) fun (r_11 : Int) =>
      Ld (.int .i64) h_47 (p.add 2) fun (r_21 : Int) =>
      Ld (.int .i64) h_47 (p.add 3) fun (r_31 : Int) =>
      Ld (.int .i64) h_47 (p.add 4) fun (r_41 : Int) =>
      Ld .str h_47 (p.add 5) fun (r_51 : ByteArray) =>
      Ld .str h_47 (p.add 6) fun (r_61 : ByteArray) =>
      Ld (.int .i64) h_47 (p.add 7) fun (r_71 : Int) =>
      Ld .bool h_47 (p.add 8) fun (r_81 : Bool) =>
      R (r_01, r_11, r_21, r_31, r_41, r_51, r_61, r_71, r_81, ()) false h_47
    else
      Ld (.int .i64) h_29 c fun (x_Kind : Int) =>
      Ld (.int .i64) h_29 (c.add 1) fun (x_Tx : Int) =>
      Ld (.int .i64) h_29 (c.add 2) fun (x_Attempt : Int) =>
      Ld (.int .i64) h_29 (c.add 3) fun (x_Stamp : Int) =>
      Ld (.int .i64) h_29 (c.add 4) fun (x_Op : Int) =>
      Ld .str h_29 (c.add 5) fun (x_Key : ByteArray) =>
      Ld .str h_29 (c.add 6) fun (x_Value : ByteArray) =>
      Ld (.int .i64) h_29 (c.add 7) fun (x_Mode : Int) =>
      Ld .bool h_29 (c.add 8) fun (x_Yes : Bool) =>
      St h_29 p (.int .i64 x_Kind) fun h_48 =>
      St h_48 (p.add 1) (.int .i64 x_Tx) fun h_49 =>
      St h_49 (p.add 2) (.int .i64 x_Attempt) fun h_50 =>
      St h_50 (p.add 3) (.int .i64 x_Stamp) fun h_51 =>
      St h_51 (p.add 4) (.int .i64 x_Op) fun h_52 =>
      St h_52 (p.add 5) (.string x_Key) fun h_53 =>
      St h_53 (p.add 6) (.string x_Value) fun h_54 =>
      St h_54 (p.add 7) (.int .i64 x_Mode) fun h_55 =>
      St h_55 (p.add 8) (.bool x_Yes) fun h_56 =>
      Ld (.int .i64) h_56 p fun (r_02 : Int) =>
      Ld (.int .i64) h_56 (p.add 1) fun (r_12 : Int) =>
      Ld (.int .i64) h_56 (p.add 2) fun (r_22 : Int) =>
      Ld (.int .i64) h_56 (p.add 3) fun (r_32 : Int) =>
      Ld (.int .i64) h_56 (p.add 4) fun (r_42 : Int) =>
      Ld .str h_56 (p.add 5) fun (r_52 : ByteArray) =>
      Ld .str h_56 (p.add 6) fun (r_62 : ByteArray) =>
      Ld (.int .i64) h_56 (p.add 7) fun (r_72 : Int) =>
      Ld .bool h_56 (p.add 8) fun (r_82 : Bool) =>
      R (r_02, r_12, r_22, r_32, r_42, r_52, r_62, r_72, r_82, ()) true h_56
    )
  )
theorem E_ref18_ReadCommand (s : ByteArray) (h : Heap) (R : KL [.int .i64, .int .i64, .int .i64, .int .i64, .int .i64, .str, .str, .int .i64, .bool] → Bool → Heap → Prop) :
    VG Try.prog [] Try.f42 [.string s] h [.agg [.int .i64, .int .i64, .int .i64, .int .i64, .int .i64, .str, .str, .int .i64, .bool], .one .bool] R = S_ref18_ReadCommand s h R := by kernel_rfl
theorem A_ref18_ReadCommand {s : ByteArray} {h : Heap} {R : KL [.int .i64, .int .i64, .int .i64, .int .i64, .int .i64, .str, .str, .int .i64, .bool] → Bool → Heap → Prop} (hs : S_ref18_ReadCommand s h R) : C_ref18_ReadCommand s h R :=
  useG_SX Try.func42 (by kernel_rfl) (E_ref18_ReadCommand s h R) hs

/-- kissinggateref18.ReadReply -/
def S_ref18_ReadReply (s : ByteArray) (h : Heap) (R : KL [.int .i64, .int .i64, .str, .bool] → Bool → Heap → Prop) : Prop :=
  Alloc h (.cells #[.int .i64 0, .int .i64 0, .string (⟨#[]⟩ : ByteArray), .bool false] 58) fun p h_ =>
  Alloc h_ (.cells #[.string s, .bool false] 152) fun p1 h_1 =>
  Alloc h_1 (.cells #[.int .i64 0, .int .i64 0, .string (⟨#[]⟩ : ByteArray), .bool false] 58) fun x h_2 =>
  St h_2 x (.int .i64 0) fun h_3 =>
  St h_3 (x.add 1) (.int .i64 0) fun h_4 =>
  St h_4 (x.add 2) (.string (⟨#[]⟩ : ByteArray)) fun h_5 =>
  St h_5 (x.add 3) (.bool false) fun h_6 =>
  C_ref01_Reader_Int (some p1) (-9223372036854775808) 9223372036854775807 h_6 fun (r : Int) h_7 =>
  St h_7 x (.int .i64 r) fun h_8 =>
  C_ref01_Reader_Int (some p1) (-9223372036854775808) 9223372036854775807 h_8 fun (r1 : Int) h_9 =>
  St h_9 (x.add 1) (.int .i64 r1) fun h_10 =>
  C_ref01_Reader_Text (some p1) 32 h_10 fun (r2 : ByteArray) h_11 =>
  St h_11 (x.add 2) (.string r2) fun h_12 =>
  C_ref01_Reader_Bool (some p1) h_12 fun (r3 : Bool) h_13 =>
  St h_13 (x.add 3) (.bool r3) fun h_14 =>
  Nn (some p1) fun p2 =>
  Ld .bool h_14 (p2.add 1) fun (Bad : Bool) =>
  (bif Bad then
    St h_14 p (.int .i64 0) fun h_15 =>
    St h_15 (p.add 1) (.int .i64 0) fun h_16 =>
    St h_16 (p.add 2) (.string (⟨#[]⟩ : ByteArray)) fun h_17 =>
    St h_17 (p.add 3) (.bool false) fun h_18 =>
    Ld (.int .i64) h_18 p fun (r_0 : Int) =>
    Ld (.int .i64) h_18 (p.add 1) fun (r_1 : Int) =>
    Ld .str h_18 (p.add 2) fun (r_2 : ByteArray) =>
    Ld .bool h_18 (p.add 3) fun (r_3 : Bool) =>
    R (r_0, r_1, r_2, r_3, ()) false h_18
  else
    Nn (some p1) fun p3 =>
    Ld .str h_14 p3 fun (S : ByteArray) =>
    (bif !(S.toList == (⟨#[]⟩ : ByteArray).toList) then
      St h_14 p (.int .i64 0) fun h_19 =>
      St h_19 (p.add 1) (.int .i64 0) fun h_20 =>
      St h_20 (p.add 2) (.string (⟨#[]⟩ : ByteArray)) fun h_21 =>
      St h_21 (p.add 3) (.bool false) fun h_22 =>
      Ld (.int .i64) h_22 p fun (r_01 : Int) =>
      Ld (.int .i64) h_22 (p.add 1) fun (r_11 : Int) =>
      Ld .str h_22 (p.add 2) fun (r_21 : ByteArray) =>
      Ld .bool h_22 (p.add 3) fun (r_31 : Bool) =>
      R (r_01, r_11, r_21, r_31, ()) false h_22
    else
      Ld (.int .i64) h_14 x fun (x_Code : Int) =>
      Ld (.int .i64) h_14 (x.add 1) fun (x_State : Int) =>
      Ld .str h_14 (x.add 2) fun (x_Value : ByteArray) =>
      Ld .bool h_14 (x.add 3) fun (x_Has : Bool) =>
      St h_14 p (.int .i64 x_Code) fun h_23 =>
      St h_23 (p.add 1) (.int .i64 x_State) fun h_24 =>
      St h_24 (p.add 2) (.string x_Value) fun h_25 =>
      St h_25 (p.add 3) (.bool x_Has) fun h_26 =>
      Ld (.int .i64) h_26 p fun (r_02 : Int) =>
      Ld (.int .i64) h_26 (p.add 1) fun (r_12 : Int) =>
      Ld .str h_26 (p.add 2) fun (r_22 : ByteArray) =>
      Ld .bool h_26 (p.add 3) fun (r_32 : Bool) =>
      R (r_02, r_12, r_22, r_32, ()) true h_26
    )
  )
theorem E_ref18_ReadReply (s : ByteArray) (h : Heap) (R : KL [.int .i64, .int .i64, .str, .bool] → Bool → Heap → Prop) :
    VG Try.prog [] Try.f43 [.string s] h [.agg [.int .i64, .int .i64, .str, .bool], .one .bool] R = S_ref18_ReadReply s h R := by kernel_rfl
theorem A_ref18_ReadReply {s : ByteArray} {h : Heap} {R : KL [.int .i64, .int .i64, .str, .bool] → Bool → Heap → Prop} (hs : S_ref18_ReadReply s h R) : C_ref18_ReadReply s h R :=
  useG_SX Try.func43 (by kernel_rfl) (E_ref18_ReadReply s h R) hs

/-- wire.ReadMessage -/
def S_wire_ReadMessage (b : Sl) (h : Heap) (R : KL [.int .i64, .int .i64, .int .i64, .int .i64, .int .i64, .int .i64, .int .i64, .bool, .sl] → Int → Heap → Prop) : Prop :=
  Alloc h (.cells #[.int .i64 0, .int .i64 0, .int .i64 0, .int .i64 0, .int .i64 0, .int .i64 0, .int .i64 0, .bool false, .slice none 0 0] 81) fun p h_ =>
  C_word_Read b h_ fun (r : Option Addr) h_1 =>
  C_wire_some r 7 h_1 fun (r1 : Sl) h_2 =>
  Ix r1 0 1 fun e =>
  Ld (.int .i64) h_2 e fun (x : Int) =>
  Ix r1 1 1 fun e1 =>
  Ld (.int .i64) h_2 e1 fun (x1 : Int) =>
  Ix r1 2 1 fun e2 =>
  Ld (.int .i64) h_2 e2 fun (x2 : Int) =>
  Ix r1 3 1 fun e3 =>
  Ld (.int .i64) h_2 e3 fun (x3 : Int) =>
  Ix r1 4 1 fun e4 =>
  Ld (.int .i64) h_2 e4 fun (x4 : Int) =>
  Ix r1 5 1 fun e5 =>
  Ld (.int .i64) h_2 e5 fun (x5 : Int) =>
  Ix r1 6 1 fun e6 =>
  Ld (.int .i64) h_2 e6 fun (x6 : Int) =>
  Alloc h_2 (.cells #[.int .i64 0, .int .i64 0, .int .i64 0, .int .i64 0, .int .i64 0, .int .i64 0, .int .i64 0, .bool false, .slice none 0 0] 81) fun m h_3 =>
  (Ld (.int .i64) h_3 e fun (x7 : Int) => (.int .i64 x7 : Value) = .int .i64 x) ∧
  (Ld (.int .i64) h_3 e1 fun (x8 : Int) => (.int .i64 x8 : Value) = .int .i64 x1) ∧
  (Ld (.int .i64) h_3 e2 fun (x9 : Int) => (.int .i64 x9 : Value) = .int .i64 x2) ∧
  (Ld (.int .i64) h_3 e3 fun (x10 : Int) => (.int .i64 x10 : Value) = .int .i64 x3) ∧
  (Ld (.int .i64) h_3 e4 fun (x11 : Int) => (.int .i64 x11 : Value) = .int .i64 x4) ∧
  (Ld (.int .i64) h_3 e5 fun (x12 : Int) => (.int .i64 x12 : Value) = .int .i64 x5) ∧
  (Ld (.int .i64) h_3 e6 fun (x13 : Int) => (.int .i64 x13 : Value) = .int .i64 x6) ∧
  St h_3 m (.int .i64 x) fun h_4 =>
  St h_4 (m.add 1) (.int .i64 x1) fun h_5 =>
  St h_5 (m.add 2) (.int .i64 x2) fun h_6 =>
  St h_6 (m.add 3) (.int .i64 x3) fun h_7 =>
  St h_7 (m.add 4) (.int .i64 x4) fun h_8 =>
  St h_8 (m.add 5) (.int .i64 x5) fun h_9 =>
  St h_9 (m.add 6) (.int .i64 x6) fun h_10 =>
  St h_10 (m.add 7) (.bool false) fun h_11 =>
  St h_11 (m.add 8) (.slice none 0 0) fun h_12 =>
  C_word_Reader_Bool r h_12 fun (r2 : Bool) h_13 =>
  St h_13 (m.add 7) (.bool r2) fun h_14 =>
  C_wire_list_api_Entry r 8 (.func (.func 96) #[] #[]) h_14 fun (r3 : Sl) h_15 =>
  St h_15 (m.add 8) (.slice r3.a r3.n r3.c) fun h_16 =>
  Ld (.int .i64) h_16 m fun (x_Kind : Int) =>
  Ld (.int .i64) h_16 (m.add 1) fun (x_From : Int) =>
  Ld (.int .i64) h_16 (m.add 2) fun (x_To : Int) =>
  Ld (.int .i64) h_16 (m.add 3) fun (x_Term : Int) =>
  Ld (.int .i64) h_16 (m.add 4) fun (x_Index : Int) =>
  Ld (.int .i64) h_16 (m.add 5) fun (x_LogTerm : Int) =>
  Ld (.int .i64) h_16 (m.add 6) fun (x_Commit : Int) =>
  Ld .bool h_16 (m.add 7) fun (x_Yes : Bool) =>
  Ld .sl h_16 (m.add 8) fun (x_Entries : Sl) =>
  C_wire_whole_api_Message r (x_Kind, x_From, x_To, x_Term, x_Index, x_LogTerm, x_Commit, x_Yes, x_Entries, ()) h_16 fun (r4 : KL [.int .i64, .int .i64, .int .i64, .int .i64, .int .i64, .int .i64, .int .i64, .bool, .sl]) (r5 : Int) h_17 =>
  St h_17 p (.int .i64 r4.1) fun h_18 =>
  St h_18 (p.add 1) (.int .i64 r4.2.1) fun h_19 =>
  St h_19 (p.add 2) (.int .i64 r4.2.2.1) fun h_20 =>
  St h_20 (p.add 3) (.int .i64 r4.2.2.2.1) fun h_21 =>
  St h_21 (p.add 4) (.int .i64 r4.2.2.2.2.1) fun h_22 =>
  St h_22 (p.add 5) (.int .i64 r4.2.2.2.2.2.1) fun h_23 =>
  St h_23 (p.add 6) (.int .i64 r4.2.2.2.2.2.2.1) fun h_24 =>
  St h_24 (p.add 7) (.bool r4.2.2.2.2.2.2.2.1) fun h_25 =>
  St h_25 (p.add 8) (.slice r4.2.2.2.2.2.2.2.2.1.a r4.2.2.2.2.2.2.2.2.1.n r4.2.2.2.2.2.2.2.2.1.c) fun h_26 =>
  Ld (.int .i64) h_26 p fun (r_0 : Int) =>
  Ld (.int .i64) h_26 (p.add 1) fun (r_1 : Int) =>
  Ld (.int .i64) h_26 (p.add 2) fun (r_2 : Int) =>
  Ld (.int .i64) h_26 (p.add 3) fun (r_3 : Int) =>
  Ld (.int .i64) h_26 (p.add 4) fun (r_4 : Int) =>
  Ld (.int .i64) h_26 (p.add 5) fun (r_5 : Int) =>
  Ld (.int .i64) h_26 (p.add 6) fun (r_6 : Int) =>
  Ld .bool h_26 (p.add 7) fun (r_7 : Bool) =>
  Ld .sl h_26 (p.add 8) fun (r_8 : Sl) =>
  R (r_0, r_1, r_2, r_3, r_4, r_5, r_6, r_7, r_8, ()) r5 h_26
theorem E_wire_ReadMessage (b : Sl) (h : Heap) (R : KL [.int .i64, .int .i64, .int .i64, .int .i64, .int .i64, .int .i64, .int .i64, .bool, .sl] → Int → Heap → Prop) :
    VG Try.prog [] Try.f44 [.slice b.a b.n b.c] h [.agg [.int .i64, .int .i64, .int .i64, .int .i64, .int .i64, .int .i64, .int .i64, .bool, .sl], .one (.int .i64)] R = S_wire_ReadMessage b h R := by kernel_rfl
theorem A_wire_ReadMessage {b : Sl} {h : Heap} {R : KL [.int .i64, .int .i64, .int .i64, .int .i64, .int .i64, .int .i64, .int .i64, .bool, .sl] → Int → Heap → Prop} (hs : S_wire_ReadMessage b h R) : C_wire_ReadMessage b h R :=
  useG_SX Try.func44 (by kernel_rfl) (E_wire_ReadMessage b h R) hs

/-- kissinggateref18.ReadMessage -/
def S_ref18_ReadMessage (s : ByteArray) (h : Heap) (R : KL [.int .i64, .int .i64, .int .i64, .int .i64, .int .i64, .int .i64, .int .i64, .bool, .sl] → Bool → Heap → Prop) : Prop :=
  Alloc h (.cells #[.int .i64 0, .int .i64 0, .int .i64 0, .int .i64 0, .int .i64 0, .int .i64 0, .int .i64 0, .bool false, .slice none 0 0] 81) fun p h_ =>
  Alloc h_ (.cells #[.string s, .bool false] 152) fun p1 h_1 =>
  Alloc h_1 (.cells #[.int .i64 0, .int .i64 0, .int .i64 0, .int .i64 0, .int .i64 0, .int .i64 0, .int .i64 0, .bool false, .slice none 0 0] 81) fun m h_2 =>
  St h_2 m (.int .i64 0) fun h_3 =>
  St h_3 (m.add 1) (.int .i64 0) fun h_4 =>
  St h_4 (m.add 2) (.int .i64 0) fun h_5 =>
  St h_5 (m.add 3) (.int .i64 0) fun h_6 =>
  St h_6 (m.add 4) (.int .i64 0) fun h_7 =>
  St h_7 (m.add 5) (.int .i64 0) fun h_8 =>
  St h_8 (m.add 6) (.int .i64 0) fun h_9 =>
  St h_9 (m.add 7) (.bool false) fun h_10 =>
  St h_10 (m.add 8) (.slice none 0 0) fun h_11 =>
  C_ref01_Reader_Int (some p1) (-9223372036854775808) 9223372036854775807 h_11 fun (r : Int) h_12 =>
  St h_12 m (.int .i64 r) fun h_13 =>
  C_ref01_Reader_Int (some p1) (-9223372036854775808) 9223372036854775807 h_13 fun (r1 : Int) h_14 =>
  St h_14 (m.add 1) (.int .i64 r1) fun h_15 =>
  C_ref01_Reader_Int (some p1) (-9223372036854775808) 9223372036854775807 h_15 fun (r2 : Int) h_16 =>
  St h_16 (m.add 2) (.int .i64 r2) fun h_17 =>
  C_ref01_Reader_Int (some p1) (-9223372036854775808) 9223372036854775807 h_17 fun (r3 : Int) h_18 =>
  St h_18 (m.add 3) (.int .i64 r3) fun h_19 =>
  C_ref01_Reader_Int (some p1) (-9223372036854775808) 9223372036854775807 h_19 fun (r4 : Int) h_20 =>
  St h_20 (m.add 4) (.int .i64 r4) fun h_21 =>
  C_ref01_Reader_Int (some p1) (-9223372036854775808) 9223372036854775807 h_21 fun (r5 : Int) h_22 =>
  St h_22 (m.add 5) (.int .i64 r5) fun h_23 =>
  C_ref01_Reader_Int (some p1) (-9223372036854775808) 9223372036854775807 h_23 fun (r6 : Int) h_24 =>
  St h_24 (m.add 6) (.int .i64 r6) fun h_25 =>
  C_ref01_Reader_Bool (some p1) h_25 fun (r7 : Bool) h_26 =>
  St h_26 (m.add 7) (.bool r7) fun h_27 =>
  C_ref01_Reader_Int (some p1) 0 8 h_27 fun (r8 : Int) h_28 =>
  Loop [.one (.int .i64)] (fun _ (i : Int) h_29 go =>
    (bif decide (i < r8) then
      C_ref01_Reader_Int (some p1) (-9223372036854775808) 9223372036854775807 h_29 fun (r9 : Int) h_30 =>
      Ld .sl h_30 (m.add 8) fun (Entries : Sl) =>
      C_ref01_Reader_Text (some p1) 512 h_30 fun (r10 : ByteArray) h_31 =>
      (Ld .sl h_31 (m.add 8) fun (Entries1 : Sl) => (.slice Entries1.a Entries1.n Entries1.c : Value) = .slice Entries.a Entries.n Entries.c) ∧
      Alloc h_31 (.cells #[.int .i64 r9, .string r10] 90) fun b h_32 =>
      (Ld .sl h_32 (m.add 8) fun (Entries2 : Sl) => (.slice Entries2.a Entries2.n Entries2.c : Value) = .slice Entries.a Entries.n Entries.c) ∧
      App Try.prog 79 79 Entries ⟨some b, 1, 1⟩ h_32 fun s1 h_33 =>
      St h_33 (m.add 8) (.slice s1.a s1.n s1.c) fun h_34 =>
      Let (IntKind.i64.wrap (i + 1) : Int) fun i1 =>
      go i1 h_34
    else
      Nn (some p1) fun p2 =>
      Ld .bool h_29 (p2.add 1) fun (Bad : Bool) =>
      (bif Bad then
        St h_29 p (.int .i64 0) fun h_35 =>
        St h_35 (p.add 1) (.int .i64 0) fun h_36 =>
        St h_36 (p.add 2) (.int .i64 0) fun h_37 =>
        St h_37 (p.add 3) (.int .i64 0) fun h_38 =>
        St h_38 (p.add 4) (.int .i64 0) fun h_39 =>
        St h_39 (p.add 5) (.int .i64 0) fun h_40 =>
        St h_40 (p.add 6) (.int .i64 0) fun h_41 =>
        St h_41 (p.add 7) (.bool false) fun h_42 =>
        St h_42 (p.add 8) (.slice none 0 0) fun h_43 =>
        Ld (.int .i64) h_43 p fun (r_0 : Int) =>
        Ld (.int .i64) h_43 (p.add 1) fun (r_1 : Int) =>
        Ld (.int .i64) h_43 (p.add 2) fun (r_2 : Int) =>
        Ld (.int .i64) h_43 (p.add 3) fun (r_3 : Int) =>
        Ld (.int .i64) h_43 (p.add 4) fun (r_4 : Int) =>
        Ld (.int .i64) h_43 (p.add 5) fun (r_5 : Int) =>
        Ld (.int .i64) h_43 (p.add 6) fun (r_6 : Int) =>
        Ld .bool h_43 (p.add 7) fun (r_7 : Bool) =>
        Ld .sl h_43 (p.add 8) fun (r_8 : Sl) =>
        R (r_0, r_1, r_2, r_3, r_4, r_5, r_6, r_7, r_8, ()) false h_43
      else
        Nn (some p1) fun p3 =>
        Ld .str h_29 p3 fun (S : ByteArray) =>
        (bif !(S.toList == (⟨#[]⟩ : ByteArray).toList) then
          St h_29 p (.int .i64 0) fun h_44 =>
          St h_44 (p.add 1) (.int .i64 0) fun h_45 =>
          St h_45 (p.add 2) (.int .i64 0) fun h_46 =>
          St h_46 (p.add 3) (.int .i64 0) fun h_47 =>
          St h_47 (p.add 4) (.int .i64 0) fun h_48 =>
          St h_48 (p.add 5) (.int .i64 0) fun h_49 =>
          St h_49 (p.add 6) (.int .i64 0) fun h_50 =>
          St h_50 (p.add 7) (.bool false) fun h_51 =>
          St h_51 (p.add 8) (.slice none 0 0) fun h_52 =>
          Ld (.int .i64) h_52 p fun (r_01 : Int) =>
          Ld (.int .i64) h_52 (p.add 1) fun (r_11 : Int) =>
          Ld (.int .i64) h_52 (p.add 2) fun (r_21 : Int) =>
          Ld (.int .i64) h_52 (p.add 3) fun (r_31 : Int) =>
          Ld (.int .i64) h_52 (p.add 4) fun (r_41 : Int) =>
          Ld (.int .i64) h_52 (p.add 5) fun (r_51 : Int) =>
          Ld (.int .i64) h_52 (p.add 6) fun (r_61 : Int) =>
          Ld .bool h_52 (p.add 7) fun (r_71 : Bool) =>
          Ld .sl h_52 (p.add 8) fun (r_81 : Sl) =>
          R (r_01, r_11, r_21, r_31, r_41, r_51, r_61, r_71, r_81, ()) false h_52
        else
          Ld (.int .i64) h_29 m fun (x_Kind : Int) =>
          Ld (.int .i64) h_29 (m.add 1) fun (x_From : Int) =>
          Ld (.int .i64) h_29 (m.add 2) fun (x_To : Int) =>
          Ld (.int .i64) h_29 (m.add 3) fun (x_Term : Int) =>
          Ld (.int .i64) h_29 (m.add 4) fun (x_Index : Int) =>
          Ld (.int .i64) h_29 (m.add 5) fun (x_LogTerm : Int) =>
          Ld (.int .i64) h_29 (m.add 6) fun (x_Commit : Int) =>
          Ld .bool h_29 (m.add 7) fun (x_Yes : Bool) =>
          Ld .sl h_29 (m.add 8) fun (x_Entries : Sl) =>
          St h_29 p (.int .i64 x_Kind) fun h_53 =>
          St h_53 (p.add 1) (.int .i64 x_From) fun h_54 =>
          St h_54 (p.add 2) (.int .i64 x_To) fun h_55 =>
          St h_55 (p.add 3) (.int .i64 x_Term) fun h_56 =>
          St h_56 (p.add 4) (.int .i64 x_Index) fun h_57 =>
          St h_57 (p.add 5) (.int .i64 x_LogTerm) fun h_58 =>
          St h_58 (p.add 6) (.int .i64 x_Commit) fun h_59 =>
          St h_59 (p.add 7) (.bool x_Yes) fun h_60 =>
          St h_60 (p.add 8) (.slice x_Entries.a x_Entries.n x_Entries.c) fun h_61 =>
          Ld (.int .i64) h_61 p fun (r_02 : Int) =>
          Ld (.int .i64) h_61 (p.add 1) fun (r_12 : Int) =>
          Ld (.int .i64) h_61 (p.add 2) fun (r_22 : Int) =>
          Ld (.int .i64) h_61 (p.add 3) fun (r_32 : Int) =>
          Ld (.int .i64) h_61 (p.add 4) fun (r_42 : Int) =>
          Ld (.int .i64) h_61 (p.add 5) fun (r_52 : Int) =>
          Ld (.int .i64) h_61 (p.add 6) fun (r_62 : Int) =>
          Ld .bool h_61 (p.add 7) fun (r_72 : Bool) =>
          Ld .sl h_61 (p.add 8) fun (r_82 : Sl) =>
          R (r_02, r_12, r_22, r_32, r_42, r_52, r_62, r_72, r_82, ()) true h_61
        )
      )
    )
    ) (0, ()) h_28
theorem E_ref18_ReadMessage (s : ByteArray) (h : Heap) (R : KL [.int .i64, .int .i64, .int .i64, .int .i64, .int .i64, .int .i64, .int .i64, .bool, .sl] → Bool → Heap → Prop) :
    VG Try.prog [(65530, [(7, .one (.int .i64))])] Try.f45 [.string s] h [.agg [.int .i64, .int .i64, .int .i64, .int .i64, .int .i64, .int .i64, .int .i64, .bool, .sl], .one .bool] R = S_ref18_ReadMessage s h R := by kernel_rfl
theorem A_ref18_ReadMessage {s : ByteArray} {h : Heap} {R : KL [.int .i64, .int .i64, .int .i64, .int .i64, .int .i64, .int .i64, .int .i64, .bool, .sl] → Bool → Heap → Prop} (hs : S_ref18_ReadMessage s h R) : C_ref18_ReadMessage s h R :=
  useG_SX Try.func45 (by kernel_rfl) (E_ref18_ReadMessage s h R) hs

/-- kissinggateref18.Same -/
def S_ref18_Same (a : KL [.int .i64, .int .i64, .int .i64, .int .i64, .int .i64, .int .i64, .int .i64, .bool, .sl]) (b : KL [.int .i64, .int .i64, .int .i64, .int .i64, .int .i64, .int .i64, .int .i64, .bool, .sl]) (h : Heap) (R : Bool → Heap → Prop) : Prop :=
  Alloc h (.cells #[.int .i64 a.1, .int .i64 a.2.1, .int .i64 a.2.2.1, .int .i64 a.2.2.2.1, .int .i64 a.2.2.2.2.1, .int .i64 a.2.2.2.2.2.1, .int .i64 a.2.2.2.2.2.2.1, .bool a.2.2.2.2.2.2.2.1, .slice a.2.2.2.2.2.2.2.2.1.a a.2.2.2.2.2.2.2.2.1.n a.2.2.2.2.2.2.2.2.1.c] 81) fun a1 h_ =>
  Alloc h_ (.cells #[.int .i64 b.1, .int .i64 b.2.1, .int .i64 b.2.2.1, .int .i64 b.2.2.2.1, .int .i64 b.2.2.2.2.1, .int .i64 b.2.2.2.2.2.1, .int .i64 b.2.2.2.2.2.2.1, .bool b.2.2.2.2.2.2.2.1, .slice b.2.2.2.2.2.2.2.2.1.a b.2.2.2.2.2.2.2.2.1.n b.2.2.2.2.2.2.2.2.1.c] 81) fun b1 h_1 =>
  Ld .sl h_1 (a1.add 8) fun (Entries : Sl) =>
  Ld .sl h_1 (b1.add 8) fun (Entries1 : Sl) =>
  (bif (Entries.n : Int) != (Entries1.n : Int) then
    R false h_1
  else
    Ld .sl h_1 (a1.add 8) fun (Entries2 : Sl) =>
    Loop [.one (.int .i64)] (fun _ (x16 : Int) h_2 go =>
      (bif decide (x16 < (Entries2.n : Int)) then
        Ld .sl h_2 (a1.add 8) fun (Entries3 : Sl) =>
        Ix Entries3 x16 2 fun e =>
        Ld (.int .i64) h_2 e fun (x_Term : Int) =>
        Ld .str h_2 (e.add 1) fun (x_Data : ByteArray) =>
        Ld .sl h_2 (b1.add 8) fun (Entries4 : Sl) =>
        Ix Entries4 x16 2 fun e1 =>
        Ld (.int .i64) h_2 e1 fun (x_Term1 : Int) =>
        Ld .str h_2 (e1.add 1) fun (x_Data1 : ByteArray) =>
        OpV Try.prog (do eqGuard .neq 90 (.tmp 23) (.tmp 28) (.agg #[.int .i64 x_Term, .string x_Data]) (.agg #[.int .i64 x_Term1, .string x_Data1]); binOp .neq 90 (.agg #[.int .i64 x_Term, .string x_Data]) (.agg #[.int .i64 x_Term1, .string x_Data1])) h_2 [.one .bool] fun (q : Bool) =>
        (bif q then
          R false h_2
        else
          go (IntKind.i64.wrap (x16 + 1)) h_2
        )
      else
        Ld (.int .i64) h_2 a1 fun (Kind : Int) =>
        Ld (.int .i64) h_2 b1 fun (Kind1 : Int) =>
        (bif Kind == Kind1 then
          Ld (.int .i64) h_2 (a1.add 1) fun (From : Int) =>
          Ld (.int .i64) h_2 (b1.add 1) fun (From1 : Int) =>
          (bif From == From1 then
            Ld (.int .i64) h_2 (a1.add 2) fun (To : Int) =>
            Ld (.int .i64) h_2 (b1.add 2) fun (To1 : Int) =>
            (bif To == To1 then
              Ld (.int .i64) h_2 (a1.add 3) fun (Term : Int) =>
              Ld (.int .i64) h_2 (b1.add 3) fun (Term1 : Int) =>
              (bif Term == Term1 then
                Ld (.int .i64) h_2 (a1.add 4) fun (Index : Int) =>
                Ld (.int .i64) h_2 (b1.add 4) fun (Index1 : Int) =>
                (bif Index == Index1 then
                  Ld (.int .i64) h_2 (a1.add 5) fun (LogTerm : Int) =>
                  Ld (.int .i64) h_2 (b1.add 5) fun (LogTerm1 : Int) =>
                  (bif LogTerm == LogTerm1 then
                    Ld (.int .i64) h_2 (a1.add 6) fun (Commit : Int) =>
                    Ld (.int .i64) h_2 (b1.add 6) fun (Commit1 : Int) =>
                    (bif Commit == Commit1 then
                      Ld .bool h_2 (a1.add 7) fun (Yes : Bool) =>
                      Ld .bool h_2 (b1.add 7) fun (Yes1 : Bool) =>
                      R (Yes == Yes1) h_2
                    else
                      R false h_2
                    )
                  else
                    R false h_2
                  )
                else
                  R false h_2
                )
              else
                R false h_2
              )
            else
              R false h_2
            )
          else
            R false h_2
          )
        else
          R false h_2
        )
      )
      ) (0, ()) h_1
  )
theorem E_ref18_Same (a : KL [.int .i64, .int .i64, .int .i64, .int .i64, .int .i64, .int .i64, .int .i64, .bool, .sl]) (b : KL [.int .i64, .int .i64, .int .i64, .int .i64, .int .i64, .int .i64, .int .i64, .bool, .sl]) (h : Heap) (R : Bool → Heap → Prop) :
    VF Try.prog [(58, [(16, .one (.int .i64))])] Try.f46 [.agg ⟨KL.vals [.int .i64, .int .i64, .int .i64, .int .i64, .int .i64, .int .i64, .int .i64, .bool, .sl] a⟩, .agg ⟨KL.vals [.int .i64, .int .i64, .int .i64, .int .i64, .int .i64, .int .i64, .int .i64, .bool, .sl] b⟩] h [.one .bool] R = S_ref18_Same a b h R := by kernel_rfl
theorem A_ref18_Same {a : KL [.int .i64, .int .i64, .int .i64, .int .i64, .int .i64, .int .i64, .int .i64, .bool, .sl]} {b : KL [.int .i64, .int .i64, .int .i64, .int .i64, .int .i64, .int .i64, .int .i64, .bool, .sl]} {h : Heap} {R : Bool → Heap → Prop} (hs : S_ref18_Same a b h R) : C_ref18_Same a b h R :=
  use_ Try.func46 (by kernel_rfl) (E_ref18_Same a b h R) hs

/-- wire.Message -/
def S_wire_Message (m : KL [.int .i64, .int .i64, .int .i64, .int .i64, .int .i64, .int .i64, .int .i64, .bool, .sl]) (h : Heap) (R : Sl → Int → Heap → Prop) : Prop :=
  Alloc h (.cells #[.int .i64 m.1, .int .i64 m.2.1, .int .i64 m.2.2.1, .int .i64 m.2.2.2.1, .int .i64 m.2.2.2.2.1, .int .i64 m.2.2.2.2.2.1, .int .i64 m.2.2.2.2.2.2.1, .bool m.2.2.2.2.2.2.2.1, .slice m.2.2.2.2.2.2.2.2.1.a m.2.2.2.2.2.2.2.2.1.n m.2.2.2.2.2.2.2.2.1.c] 81) fun m1 h_ =>
  Ld .sl h_ (m1.add 8) fun (Entries : Sl) =>
  (bif decide ((Entries.n : Int) > 8) then
    R ⟨none, 0, 0⟩ 4 h_
  else
    Ld (.int .i64) h_ m1 fun (Kind : Int) =>
    Ld (.int .i64) h_ (m1.add 1) fun (From : Int) =>
    Ld (.int .i64) h_ (m1.add 2) fun (To : Int) =>
    Ld (.int .i64) h_ (m1.add 3) fun (Term : Int) =>
    Ld (.int .i64) h_ (m1.add 4) fun (Index : Int) =>
    Ld (.int .i64) h_ (m1.add 5) fun (LogTerm : Int) =>
    Ld (.int .i64) h_ (m1.add 6) fun (Commit : Int) =>
    Alloc h_ (.cells #[.int .i64 Kind, .int .i64 From, .int .i64 To, .int .i64 Term, .int .i64 Index, .int .i64 LogTerm, .int .i64 Commit] 3) fun b h_1 =>
    C_wire_numbers ⟨none, 0, 0⟩ ⟨some b, 7, 7⟩ h_1 fun (r : Sl) h_2 =>
    Ld .bool h_2 (m1.add 7) fun (Yes : Bool) =>
    Ld .sl h_2 (m1.add 8) fun (Entries1 : Sl) =>
    C_word_Bool r Yes h_2 fun (r1 : Sl) h_3 =>
    (Ld .sl h_3 (m1.add 8) fun (Entries2 : Sl) => (.slice Entries2.a Entries2.n Entries2.c : Value) = .slice Entries1.a Entries1.n Entries1.c) ∧
    C_word_Int r1 (Entries1.n : Int) h_3 fun (r2 : Sl) h_4 =>
    Ld .sl h_4 (m1.add 8) fun (Entries3 : Sl) =>
    Loop [.one .sl, .one (.int .i64)] (fun _ (b1 : Sl) (x38 : Int) h_5 go =>
      (bif decide (x38 < (Entries3.n : Int)) then
        Ix Entries3 x38 2 fun e =>
        Ld (.int .i64) h_5 e fun (x_Term : Int) =>
        Ld .str h_5 (e.add 1) fun (x_Data : ByteArray) =>
        Alloc h_5 (.cells #[.int .i64 0, .string (⟨#[]⟩ : ByteArray)] 90) fun e1 h_6 =>
        St h_6 e1 (.int .i64 x_Term) fun h_7 =>
        St h_7 (e1.add 1) (.string x_Data) fun h_8 =>
        Ld .str h_8 (e1.add 1) fun (Data : ByteArray) =>
        (bif decide ((Data.size : Int) > 512) then
          R ⟨none, 0, 0⟩ 4 h_8
        else
          Ld (.int .i64) h_8 e1 fun (Term1 : Int) =>
          Ld .str h_8 (e1.add 1) fun (Data1 : ByteArray) =>
          C_word_Int b1 Term1 h_8 fun (r3 : Sl) h_9 =>
          (Ld .str h_9 (e1.add 1) fun (Data2 : ByteArray) => (.string Data2 : Value) = .string Data1) ∧
          C_word_Text r3 Data1 h_9 fun (r4 : Sl) h_10 =>
          go r4 (IntKind.i64.wrap (x38 + 1)) h_10
        )
      else
        R b1 0 h_5
      )
      ) (r2, 0, ()) h_4
  )
theorem E_wire_Message (m : KL [.int .i64, .int .i64, .int .i64, .int .i64, .int .i64, .int .i64, .int .i64, .bool, .sl]) (h : Heap) (R : Sl → Int → Heap → Prop) :
    VF Try.prog [(250, [(4, .one .sl), (38, .one (.int .i64))])] Try.f47 [.agg ⟨KL.vals [.int .i64, .int .i64, .int .i64, .int .i64, .int .i64, .int .i64, .int .i64, .bool, .sl] m⟩] h [.one .sl, .one (.int .i64)] R = S_wire_Message m h R := by kernel_rfl
theorem A_wire_Message {m : KL [.int .i64, .int .i64, .int .i64, .int .i64, .int .i64, .int .i64, .int .i64, .bool, .sl]} {h : Heap} {R : Sl → Int → Heap → Prop} (hs : S_wire_Message m h R) : C_wire_Message m h R :=
  use_ Try.func47 (by kernel_rfl) (E_wire_Message m h R) hs

/-- kissinggateref18.Message -/
def S_ref18_Message (m : KL [.int .i64, .int .i64, .int .i64, .int .i64, .int .i64, .int .i64, .int .i64, .bool, .sl]) (h : Heap) (R : ByteArray → Bool → Heap → Prop) : Prop :=
  Alloc h (.cells #[.int .i64 m.1, .int .i64 m.2.1, .int .i64 m.2.2.1, .int .i64 m.2.2.2.1, .int .i64 m.2.2.2.2.1, .int .i64 m.2.2.2.2.2.1, .int .i64 m.2.2.2.2.2.2.1, .bool m.2.2.2.2.2.2.2.1, .slice m.2.2.2.2.2.2.2.2.1.a m.2.2.2.2.2.2.2.2.1.n m.2.2.2.2.2.2.2.2.1.c] 81) fun m1 h_ =>
  Ld (.int .i64) h_ m1 fun (Kind : Int) =>
  Ld (.int .i64) h_ (m1.add 1) fun (From : Int) =>
  Ld (.int .i64) h_ (m1.add 2) fun (To : Int) =>
  Ld (.int .i64) h_ (m1.add 3) fun (Term : Int) =>
  Ld (.int .i64) h_ (m1.add 4) fun (Index : Int) =>
  Ld (.int .i64) h_ (m1.add 5) fun (LogTerm : Int) =>
  Ld (.int .i64) h_ (m1.add 6) fun (Commit : Int) =>
  Alloc h_ (.cells #[.int .i64 Kind, .int .i64 From, .int .i64 To, .int .i64 Term, .int .i64 Index, .int .i64 LogTerm, .int .i64 Commit] 3) fun b h_1 =>
  Loop [.one .str, .one (.int .i64)] (fun _ (out : ByteArray) (x26 : Int) h_2 go =>
    (bif decide (x26 < 7) then
      Ix ⟨some b, 7, 7⟩ x26 1 fun e =>
      Ld (.int .i64) h_2 e fun (x : Int) =>
      C_ref01_Int x h_2 fun (r : ByteArray) h_3 =>
      Cat out r fun str =>
      go str (IntKind.i64.wrap (x26 + 1)) h_3
    else
      Ld .bool h_2 (m1.add 7) fun (Yes : Bool) =>
      Ld .sl h_2 (m1.add 8) fun (Entries : Sl) =>
      C_ref01_Bool Yes h_2 fun (r1 : ByteArray) h_4 =>
      (Ld .sl h_4 (m1.add 8) fun (Entries1 : Sl) => (.slice Entries1.a Entries1.n Entries1.c : Value) = .slice Entries.a Entries.n Entries.c) ∧
      Cat out r1 fun str1 =>
      C_ref01_Int (Entries.n : Int) h_4 fun (r2 : ByteArray) h_5 =>
      Cat str1 r2 fun str2 =>
      Ld .sl h_5 (m1.add 8) fun (Entries2 : Sl) =>
      Let (decide ((Entries2.n : Int) ≤ 8) : Bool) fun ok =>
      Ld .sl h_5 (m1.add 8) fun (Entries3 : Sl) =>
      Loop [.one .str, .one .bool, .one (.int .i64)] (fun _ (out1 : ByteArray) (ok1 : Bool) (x52 : Int) h_6 go1 =>
        (bif decide (x52 < (Entries3.n : Int)) then
          Ix Entries3 x52 2 fun e1 =>
          Ld (.int .i64) h_6 e1 fun (x_Term : Int) =>
          Ld .str h_6 (e1.add 1) fun (x_Data : ByteArray) =>
          Alloc h_6 (.cells #[.int .i64 0, .string (⟨#[]⟩ : ByteArray)] 90) fun e2 h_7 =>
          St h_7 e2 (.int .i64 x_Term) fun h_8 =>
          St h_8 (e2.add 1) (.string x_Data) fun h_9 =>
          Ld (.int .i64) h_9 e2 fun (Term1 : Int) =>
          Ld .str h_9 (e2.add 1) fun (Data : ByteArray) =>
          C_ref01_Int Term1 h_9 fun (r3 : ByteArray) h_10 =>
          (Ld .str h_10 (e2.add 1) fun (Data1 : ByteArray) => (.string Data1 : Value) = .string Data) ∧
          Cat out1 r3 fun str3 =>
          C_ref01_Text Data h_10 fun (r4 : ByteArray) h_11 =>
          Cat str3 r4 fun str4 =>
          (bif ok1 then
            Ld .str h_11 (e2.add 1) fun (Data2 : ByteArray) =>
            Let (decide ((Data2.size : Int) ≤ 512) : Bool) fun ok2 =>
            go1 str4 ok2 (IntKind.i64.wrap (x52 + 1)) h_11
          else
            go1 str4 false (IntKind.i64.wrap (x52 + 1)) h_11
          )
        else
          R out1 ok1 h_6
        )
        ) (str2, ok, 0, ()) h_5
    )
    ) ((⟨#[]⟩ : ByteArray), 0, ()) h_1
theorem E_ref18_Message (m : KL [.int .i64, .int .i64, .int .i64, .int .i64, .int .i64, .int .i64, .int .i64, .bool, .sl]) (h : Heap) (R : ByteArray → Bool → Heap → Prop) :
    VF Try.prog [(58, [(4, .one .str), (26, .one (.int .i64))]), (506, [(4, .one .str), (7, .one .bool), (52, .one (.int .i64))])] Try.f48 [.agg ⟨KL.vals [.int .i64, .int .i64, .int .i64, .int .i64, .int .i64, .int .i64, .int .i64, .bool, .sl] m⟩] h [.one .str, .one .bool] R = S_ref18_Message m h R := by kernel_rfl
theorem A_ref18_Message {m : KL [.int .i64, .int .i64, .int .i64, .int .i64, .int .i64, .int .i64, .int .i64, .bool, .sl]} {h : Heap} {R : ByteArray → Bool → Heap → Prop} (hs : S_ref18_Message m h R) : C_ref18_Message m h R :=
  use_ Try.func48 (by kernel_rfl) (E_ref18_Message m h R) hs

/-- wire.numbers -/
def S_wire_numbers (b : Sl) (l : Sl) (h : Heap) (R : Sl → Heap → Prop) : Prop :=
  Loop [.one .sl, .one (.int .i64)] (fun _ (b1 : Sl) (x9 : Int) h_ go =>
    (bif decide (x9 < (l.n : Int)) then
      Ix l x9 1 fun e =>
      Ld (.int .i64) h_ e fun (x : Int) =>
      C_word_Int b1 x h_ fun (r : Sl) h_1 =>
      go r (IntKind.i64.wrap (x9 + 1)) h_1
    else
      R b1 h_
    )
    ) (b, 0, ()) h
theorem E_wire_numbers (b : Sl) (l : Sl) (h : Heap) (R : Sl → Heap → Prop) :
    VF Try.prog [(26, [(0, .one .sl), (9, .one (.int .i64))])] Try.f77 [.slice b.a b.n b.c, .slice l.a l.n l.c] h [.one .sl] R = S_wire_numbers b l h R := by kernel_rfl
theorem A_wire_numbers {b : Sl} {l : Sl} {h : Heap} {R : Sl → Heap → Prop} (hs : S_wire_numbers b l h R) : C_wire_numbers b l h R :=
  use_ Try.func77 (by kernel_rfl) (E_wire_numbers b l h R) hs

/-- wire.some -/
def S_wire_some (r : Option Addr) (n : Int) (h : Heap) (R : Sl → Heap → Prop) : Prop :=
  Mk Try.prog 144 n n h fun s h_ =>
  Loop [.one (.int .i64)] (fun _ (x11 : Int) h_1 go =>
    (bif decide (x11 < (s.n : Int)) then
      C_wire_number r h_1 fun (r1 : Int) h_2 =>
      Ix s x11 1 fun e =>
      St h_2 e (.int .i64 r1) fun h_3 =>
      go (IntKind.i64.wrap (x11 + 1)) h_3
    else
      R s h_1
    )
    ) (0, ()) h_
theorem E_wire_some (r : Option Addr) (n : Int) (h : Heap) (R : Sl → Heap → Prop) :
    VF Try.prog [(58, [(11, .one (.int .i64))])] Try.f85 [.pointer r, .int .i64 n] h [.one .sl] R = S_wire_some r n h R := by kernel_rfl
theorem A_wire_some {r : Option Addr} {n : Int} {h : Heap} {R : Sl → Heap → Prop} (hs : S_wire_some r n h R) : C_wire_some r n h R :=
  use_ Try.func85 (by kernel_rfl) (E_wire_some r n h R) hs

/-- wire.number -/
def S_wire_number (r : Option Addr) (h : Heap) (R : Int → Heap → Prop) : Prop :=
  C_word_Reader_Int r (-9223372036854775808) 9223372036854775807 h fun (r1 : Int) h_ =>
  R r1 h_
theorem E_wire_number (r : Option Addr) (h : Heap) (R : Int → Heap → Prop) :
    VF Try.prog [] Try.f87 [.pointer r] h [.one (.int .i64)] R = S_wire_number r h R := by kernel_rfl
theorem A_wire_number {r : Option Addr} {h : Heap} {R : Int → Heap → Prop} (hs : S_wire_number r h R) : C_wire_number r h R :=
  use_ Try.func87 (by kernel_rfl) (E_wire_number r h R) hs

/-- wire.whole[api.Command] -/
def S_wire_whole_api_Command (r : Option Addr) (x : KL [.int .i64, .int .i64, .int .i64, .int .i64, .int .i64, .str, .str, .int .i64, .bool]) (h : Heap) (R : KL [.int .i64, .int .i64, .int .i64, .int .i64, .int .i64, .str, .str, .int .i64, .bool] → Int → Heap → Prop) : Prop :=
  Alloc h (.cells #[.int .i64 x.1, .int .i64 x.2.1, .int .i64 x.2.2.1, .int .i64 x.2.2.2.1, .int .i64 x.2.2.2.2.1, .string x.2.2.2.2.2.1, .string x.2.2.2.2.2.2.1, .int .i64 x.2.2.2.2.2.2.2.1, .bool x.2.2.2.2.2.2.2.2.1] 56) fun x1 h_ =>
  Alloc h_ (.cells #[.int .i64 0, .int .i64 0, .int .i64 0, .int .i64 0, .int .i64 0, .string (⟨#[]⟩ : ByteArray), .string (⟨#[]⟩ : ByteArray), .int .i64 0, .bool false] 56) fun p h_1 =>
  C_word_Reader_Done r h_1 fun (r1 : Bool) h_2 =>
  (bif !r1 then
    Alloc h_2 (.cells #[.int .i64 0, .int .i64 0, .int .i64 0, .int .i64 0, .int .i64 0, .string (⟨#[]⟩ : ByteArray), .string (⟨#[]⟩ : ByteArray), .int .i64 0, .bool false] 56) fun none_ h_3 =>
    Ld (.int .i64) h_3 none_ fun (x_Kind : Int) =>
    Ld (.int .i64) h_3 (none_.add 1) fun (x_Tx : Int) =>
    Ld (.int .i64) h_3 (none_.add 2) fun (x_Attempt : Int) =>
    Ld (.int .i64) h_3 (none_.add 3) fun (x_Stamp : Int) =>
    Ld (.int .i64) h_3 (none_.add 4) fun (x_Op : Int) =>
    Ld .str h_3 (none_.add 5) fun (x_Key : ByteArray) =>
    Ld .str h_3 (none_.add 6) fun (x_Value : ByteArray) =>
    Ld (.int .i64) h_3 (none_.add 7) fun (x_Mode : Int) =>
    Ld .bool h_3 (none_.add 8) fun (x_Yes : Bool) =>
    St h_3 p (.int .i64 x_Kind) fun h_4 =>
    St h_4 (p.add 1) (.int .i64 x_Tx) fun h_5 =>
    St h_5 (p.add 2) (.int .i64 x_Attempt) fun h_6 =>
    St h_6 (p.add 3) (.int .i64 x_Stamp) fun h_7 =>
    St h_7 (p.add 4) (.int .i64 x_Op) fun h_8 =>
    St h_8 (p.add 5) (.string x_Key) fun h_9 =>
    St h_9 (p.add 6) (.string x_Value) fun h_10 =>
    St h_10 (p.add 7) (.int .i64 x_Mode) fun h_11 =>
    St h_11 (p.add 8) (.bool x_Yes) fun h_12 =>
    Ld (.int .i64) h_12 p fun (r_0 : Int) =>
    Ld (.int .i64) h_12 (p.add 1) fun (r_1 : Int) =>
    Ld (.int .i64) h_12 (p.add 2) fun (r_2 : Int) =>
    Ld (.int .i64) h_12 (p.add 3) fun (r_3 : Int) =>
    Ld (.int .i64) h_12 (p.add 4) fun (r_4 : Int) =>
    Ld .str h_12 (p.add 5) fun (r_5 : ByteArray) =>
    Ld .str h_12 (p.add 6) fun (r_6 : ByteArray) =>
    Ld (.int .i64) h_12 (p.add 7) fun (r_7 : Int) =>
    Ld .bool h_12 (p.add 8) fun (r_8 : Bool) =>
    R (r_0, r_1, r_2, r_3, r_4, r_5, r_6, r_7, r_8, ()) 2 h_12
  else
    Ld (.int .i64) h_2 x1 fun (x_Kind1 : Int) =>
    Ld (.int .i64) h_2 (x1.add 1) fun (x_Tx1 : Int) =>
    Ld (.int .i64) h_2 (x1.add 2) fun (x_Attempt1 : Int) =>
    Ld (.int .i64) h_2 (x1.add 3) fun (x_Stamp1 : Int) =>
    Ld (.int .i64) h_2 (x1.add 4) fun (x_Op1 : Int) =>
    Ld .str h_2 (x1.add 5) fun (x_Key1 : ByteArray) =>
    Ld .str h_2 (x1.add 6) fun (x_Value1 : ByteArray) =>
    Ld (.int .i64) h_2 (x1.add 7) fun (x_Mode1 : Int) =>
    Ld .bool h_2 (x1.add 8) fun (x_Yes1 : Bool) =>
    St h_2 p (.int .i64 x_Kind1) fun h_13 =>
    St h_13 (p.add 1) (.int .i64 x_Tx1) fun h_14 =>
    St h_14 (p.add 2) (.int .i64 x_Attempt1) fun h_15 =>
    St h_15 (p.add 3) (.int .i64 x_Stamp1) fun h_16 =>
    St h_16 (p.add 4) (.int .i64 x_Op1) fun h_17 =>
    St h_17 (p.add 5) (.string x_Key1) fun h_18 =>
    St h_18 (p.add 6) (.string x_Value1) fun h_19 =>
    St h_19 (p.add 7) (.int .i64 x_Mode1) fun h_20 =>
    St h_20 (p.add 8) (.bool x_Yes1) fun h_21 =>
    Ld (.int .i64) h_21 p fun (r_01 : Int) =>
    Ld (.int .i64) h_21 (p.add 1) fun (r_11 : Int) =>
    Ld (.int .i64) h_21 (p.add 2) fun (r_21 : Int) =>
    Ld (.int .i64) h_21 (p.add 3) fun (r_31 : Int) =>
    Ld (.int .i64) h_21 (p.add 4) fun (r_41 : Int) =>
    Ld .str h_21 (p.add 5) fun (r_51 : ByteArray) =>
    Ld .str h_21 (p.add 6) fun (r_61 : ByteArray) =>
    Ld (.int .i64) h_21 (p.add 7) fun (r_71 : Int) =>
    Ld .bool h_21 (p.add 8) fun (r_81 : Bool) =>
    R (r_01, r_11, r_21, r_31, r_41, r_51, r_61, r_71, r_81, ()) 0 h_21
  )
theorem E_wire_whole_api_Command (r : Option Addr) (x : KL [.int .i64, .int .i64, .int .i64, .int .i64, .int .i64, .str, .str, .int .i64, .bool]) (h : Heap) (R : KL [.int .i64, .int .i64, .int .i64, .int .i64, .int .i64, .str, .str, .int .i64, .bool] → Int → Heap → Prop) :
    VG Try.prog [] Try.f89 [.pointer r, .agg ⟨KL.vals [.int .i64, .int .i64, .int .i64, .int .i64, .int .i64, .str, .str, .int .i64, .bool] x⟩] h [.agg [.int .i64, .int .i64, .int .i64, .int .i64, .int .i64, .str, .str, .int .i64, .bool], .one (.int .i64)] R = S_wire_whole_api_Command r x h R := by kernel_rfl
theorem A_wire_whole_api_Command {r : Option Addr} {x : KL [.int .i64, .int .i64, .int .i64, .int .i64, .int .i64, .str, .str, .int .i64, .bool]} {h : Heap} {R : KL [.int .i64, .int .i64, .int .i64, .int .i64, .int .i64, .str, .str, .int .i64, .bool] → Int → Heap → Prop} (hs : S_wire_whole_api_Command r x h R) : C_wire_whole_api_Command r x h R :=
  useG_SX Try.func89 (by kernel_rfl) (E_wire_whole_api_Command r x h R) hs

/-- wire.whole[api.Reply] -/
def S_wire_whole_api_Reply (r : Option Addr) (x : KL [.int .i64, .int .i64, .str, .bool]) (h : Heap) (R : KL [.int .i64, .int .i64, .str, .bool] → Int → Heap → Prop) : Prop :=
  Alloc h (.cells #[.int .i64 x.1, .int .i64 x.2.1, .string x.2.2.1, .bool x.2.2.2.1] 58) fun x1 h_ =>
  Alloc h_ (.cells #[.int .i64 0, .int .i64 0, .string (⟨#[]⟩ : ByteArray), .bool false] 58) fun p h_1 =>
  C_word_Reader_Done r h_1 fun (r1 : Bool) h_2 =>
  (bif !r1 then
    Alloc h_2 (.cells #[.int .i64 0, .int .i64 0, .string (⟨#[]⟩ : ByteArray), .bool false] 58) fun none_ h_3 =>
    Ld (.int .i64) h_3 none_ fun (x_Code : Int) =>
    Ld (.int .i64) h_3 (none_.add 1) fun (x_State : Int) =>
    Ld .str h_3 (none_.add 2) fun (x_Value : ByteArray) =>
    Ld .bool h_3 (none_.add 3) fun (x_Has : Bool) =>
    St h_3 p (.int .i64 x_Code) fun h_4 =>
    St h_4 (p.add 1) (.int .i64 x_State) fun h_5 =>
    St h_5 (p.add 2) (.string x_Value) fun h_6 =>
    St h_6 (p.add 3) (.bool x_Has) fun h_7 =>
    Ld (.int .i64) h_7 p fun (r_0 : Int) =>
    Ld (.int .i64) h_7 (p.add 1) fun (r_1 : Int) =>
    Ld .str h_7 (p.add 2) fun (r_2 : ByteArray) =>
    Ld .bool h_7 (p.add 3) fun (r_3 : Bool) =>
    R (r_0, r_1, r_2, r_3, ()) 2 h_7
  else
    Ld (.int .i64) h_2 x1 fun (x_Code1 : Int) =>
    Ld (.int .i64) h_2 (x1.add 1) fun (x_State1 : Int) =>
    Ld .str h_2 (x1.add 2) fun (x_Value1 : ByteArray) =>
    Ld .bool h_2 (x1.add 3) fun (x_Has1 : Bool) =>
    St h_2 p (.int .i64 x_Code1) fun h_8 =>
    St h_8 (p.add 1) (.int .i64 x_State1) fun h_9 =>
    St h_9 (p.add 2) (.string x_Value1) fun h_10 =>
    St h_10 (p.add 3) (.bool x_Has1) fun h_11 =>
    Ld (.int .i64) h_11 p fun (r_01 : Int) =>
    Ld (.int .i64) h_11 (p.add 1) fun (r_11 : Int) =>
    Ld .str h_11 (p.add 2) fun (r_21 : ByteArray) =>
    Ld .bool h_11 (p.add 3) fun (r_31 : Bool) =>
    R (r_01, r_11, r_21, r_31, ()) 0 h_11
  )
theorem E_wire_whole_api_Reply (r : Option Addr) (x : KL [.int .i64, .int .i64, .str, .bool]) (h : Heap) (R : KL [.int .i64, .int .i64, .str, .bool] → Int → Heap → Prop) :
    VG Try.prog [] Try.f90 [.pointer r, .agg ⟨KL.vals [.int .i64, .int .i64, .str, .bool] x⟩] h [.agg [.int .i64, .int .i64, .str, .bool], .one (.int .i64)] R = S_wire_whole_api_Reply r x h R := by kernel_rfl
theorem A_wire_whole_api_Reply {r : Option Addr} {x : KL [.int .i64, .int .i64, .str, .bool]} {h : Heap} {R : KL [.int .i64, .int .i64, .str, .bool] → Int → Heap → Prop} (hs : S_wire_whole_api_Reply r x h R) : C_wire_whole_api_Reply r x h R :=
  useG_SX Try.func90 (by kernel_rfl) (E_wire_whole_api_Reply r x h R) hs

/-- wire.list[api.Entry] -/
def S_wire_list_api_Entry (r : Option Addr) (most : Int) (h : Heap) (R : Sl → Heap → Prop) : Prop :=
  C_word_Reader_Int r 0 most h fun (r1 : Int) h_ =>
  Loop [.one .sl, .one (.int .i64)] (fun _ (out : Sl) (n : Int) h_1 go =>
    (bif decide (n > 0) then
      C_word_Reader_Fail r h_1 fun (r2 : Bool) h_2 =>
      (bif !r2 then
        C_wire_entry r h_2 fun (r3 : KL [.int .i64, .str]) h_3 =>
        Alloc h_3 (.cells #[.int .i64 r3.1, .string r3.2.1] 90) fun b h_4 =>
        App Try.prog 79 79 out ⟨some b, 1, 1⟩ h_4 fun s h_5 =>
        Let (IntKind.i64.wrap (n - 1) : Int) fun n1 =>
        go s n1 h_5
      else
        R out h_2
      )
    else
      R out h_1
    )
    ) (⟨none, 0, 0⟩, r1, ()) h_
theorem E_wire_list_api_Entry (r : Option Addr) (most : Int) (h : Heap) (R : Sl → Heap → Prop) :
    VF Try.prog [(58, [(7, .one .sl), (8, .one (.int .i64))])] Try.f95 [.pointer r, .int .i64 most, .func (.func 96) #[] #[]] h [.one .sl] R = S_wire_list_api_Entry r most h R := by kernel_rfl
theorem A_wire_list_api_Entry {r : Option Addr} {most : Int} {h : Heap} {R : Sl → Heap → Prop} (hs : S_wire_list_api_Entry r most h R) : C_wire_list_api_Entry r most (.func (.func 96) #[] #[]) h R :=
  use_ Try.func95 (by kernel_rfl) (E_wire_list_api_Entry r most h R) hs

/-- wire.entry -/
def S_wire_entry (r : Option Addr) (h : Heap) (R : KL [.int .i64, .str] → Heap → Prop) : Prop :=
  Alloc h (.cells #[.int .i64 0, .string (⟨#[]⟩ : ByteArray)] 90) fun p h_ =>
  C_wire_number r h_ fun (r1 : Int) h_1 =>
  C_word_Reader_Text r 512 h_1 fun (r2 : ByteArray) h_2 =>
  St h_2 p (.int .i64 r1) fun h_3 =>
  St h_3 (p.add 1) (.string r2) fun h_4 =>
  Ld (.int .i64) h_4 p fun (r_0 : Int) =>
  Ld .str h_4 (p.add 1) fun (r_1 : ByteArray) =>
  R (r_0, r_1, ()) h_4
theorem E_wire_entry (r : Option Addr) (h : Heap) (R : KL [.int .i64, .str] → Heap → Prop) :
    VG Try.prog [] Try.f96 [.pointer r] h [.agg [.int .i64, .str]] R = S_wire_entry r h R := by kernel_rfl
theorem A_wire_entry {r : Option Addr} {h : Heap} {R : KL [.int .i64, .str] → Heap → Prop} (hs : S_wire_entry r h R) : C_wire_entry r h R :=
  useG_SX Try.func96 (by kernel_rfl) (E_wire_entry r h R) hs

/-- wire.whole[api.Message] -/
def S_wire_whole_api_Message (r : Option Addr) (x : KL [.int .i64, .int .i64, .int .i64, .int .i64, .int .i64, .int .i64, .int .i64, .bool, .sl]) (h : Heap) (R : KL [.int .i64, .int .i64, .int .i64, .int .i64, .int .i64, .int .i64, .int .i64, .bool, .sl] → Int → Heap → Prop) : Prop :=
  Alloc h (.cells #[.int .i64 x.1, .int .i64 x.2.1, .int .i64 x.2.2.1, .int .i64 x.2.2.2.1, .int .i64 x.2.2.2.2.1, .int .i64 x.2.2.2.2.2.1, .int .i64 x.2.2.2.2.2.2.1, .bool x.2.2.2.2.2.2.2.1, .slice x.2.2.2.2.2.2.2.2.1.a x.2.2.2.2.2.2.2.2.1.n x.2.2.2.2.2.2.2.2.1.c] 81) fun x1 h_ =>
  Alloc h_ (.cells #[.int .i64 0, .int .i64 0, .int .i64 0, .int .i64 0, .int .i64 0, .int .i64 0, .int .i64 0, .bool false, .slice none 0 0] 81) fun p h_1 =>
  C_word_Reader_Done r h_1 fun (r1 : Bool) h_2 =>
  (bif !r1 then
    Alloc h_2 (.cells #[.int .i64 0, .int .i64 0, .int .i64 0, .int .i64 0, .int .i64 0, .int .i64 0, .int .i64 0, .bool false, .slice none 0 0] 81) fun none_ h_3 =>
    Ld (.int .i64) h_3 none_ fun (x_Kind : Int) =>
    Ld (.int .i64) h_3 (none_.add 1) fun (x_From : Int) =>
    Ld (.int .i64) h_3 (none_.add 2) fun (x_To : Int) =>
    Ld (.int .i64) h_3 (none_.add 3) fun (x_Term : Int) =>
    Ld (.int .i64) h_3 (none_.add 4) fun (x_Index : Int) =>
    Ld (.int .i64) h_3 (none_.add 5) fun (x_LogTerm : Int) =>
    Ld (.int .i64) h_3 (none_.add 6) fun (x_Commit : Int) =>
    Ld .bool h_3 (none_.add 7) fun (x_Yes : Bool) =>
    Ld .sl h_3 (none_.add 8) fun (x_Entries : Sl) =>
    St h_3 p (.int .i64 x_Kind) fun h_4 =>
    St h_4 (p.add 1) (.int .i64 x_From) fun h_5 =>
    St h_5 (p.add 2) (.int .i64 x_To) fun h_6 =>
    St h_6 (p.add 3) (.int .i64 x_Term) fun h_7 =>
    St h_7 (p.add 4) (.int .i64 x_Index) fun h_8 =>
    St h_8 (p.add 5) (.int .i64 x_LogTerm) fun h_9 =>
    St h_9 (p.add 6) (.int .i64 x_Commit) fun h_10 =>
    St h_10 (p.add 7) (.bool x_Yes) fun h_11 =>
    St h_11 (p.add 8) (.slice x_Entries.a x_Entries.n x_Entries.c) fun h_12 =>
    Ld (.int .i64) h_12 p fun (r_0 : Int) =>
    Ld (.int .i64) h_12 (p.add 1) fun (r_1 : Int) =>
    Ld (.int .i64) h_12 (p.add 2) fun (r_2 : Int) =>
    Ld (.int .i64) h_12 (p.add 3) fun (r_3 : Int) =>
    Ld (.int .i64) h_12 (p.add 4) fun (r_4 : Int) =>
    Ld (.int .i64) h_12 (p.add 5) fun (r_5 : Int) =>
    Ld (.int .i64) h_12 (p.add 6) fun (r_6 : Int) =>
    Ld .bool h_12 (p.add 7) fun (r_7 : Bool) =>
    Ld .sl h_12 (p.add 8) fun (r_8 : Sl) =>
    R (r_0, r_1, r_2, r_3, r_4, r_5, r_6, r_7, r_8, ()) 2 h_12
  else
    Ld (.int .i64) h_2 x1 fun (x_Kind1 : Int) =>
    Ld (.int .i64) h_2 (x1.add 1) fun (x_From1 : Int) =>
    Ld (.int .i64) h_2 (x1.add 2) fun (x_To1 : Int) =>
    Ld (.int .i64) h_2 (x1.add 3) fun (x_Term1 : Int) =>
    Ld (.int .i64) h_2 (x1.add 4) fun (x_Index1 : Int) =>
    Ld (.int .i64) h_2 (x1.add 5) fun (x_LogTerm1 : Int) =>
    Ld (.int .i64) h_2 (x1.add 6) fun (x_Commit1 : Int) =>
    Ld .bool h_2 (x1.add 7) fun (x_Yes1 : Bool) =>
    Ld .sl h_2 (x1.add 8) fun (x_Entries1 : Sl) =>
    St h_2 p (.int .i64 x_Kind1) fun h_13 =>
    St h_13 (p.add 1) (.int .i64 x_From1) fun h_14 =>
    St h_14 (p.add 2) (.int .i64 x_To1) fun h_15 =>
    St h_15 (p.add 3) (.int .i64 x_Term1) fun h_16 =>
    St h_16 (p.add 4) (.int .i64 x_Index1) fun h_17 =>
    St h_17 (p.add 5) (.int .i64 x_LogTerm1) fun h_18 =>
    St h_18 (p.add 6) (.int .i64 x_Commit1) fun h_19 =>
    St h_19 (p.add 7) (.bool x_Yes1) fun h_20 =>
    St h_20 (p.add 8) (.slice x_Entries1.a x_Entries1.n x_Entries1.c) fun h_21 =>
    Ld (.int .i64) h_21 p fun (r_01 : Int) =>
    Ld (.int .i64) h_21 (p.add 1) fun (r_11 : Int) =>
    Ld (.int .i64) h_21 (p.add 2) fun (r_21 : Int) =>
    Ld (.int .i64) h_21 (p.add 3) fun (r_31 : Int) =>
    Ld (.int .i64) h_21 (p.add 4) fun (r_41 : Int) =>
    Ld (.int .i64) h_21 (p.add 5) fun (r_51 : Int) =>
    Ld (.int .i64) h_21 (p.add 6) fun (r_61 : Int) =>
    Ld .bool h_21 (p.add 7) fun (r_71 : Bool) =>
    Ld .sl h_21 (p.add 8) fun (r_81 : Sl) =>
    R (r_01, r_11, r_21, r_31, r_41, r_51, r_61, r_71, r_81, ()) 0 h_21
  )
theorem E_wire_whole_api_Message (r : Option Addr) (x : KL [.int .i64, .int .i64, .int .i64, .int .i64, .int .i64, .int .i64, .int .i64, .bool, .sl]) (h : Heap) (R : KL [.int .i64, .int .i64, .int .i64, .int .i64, .int .i64, .int .i64, .int .i64, .bool, .sl] → Int → Heap → Prop) :
    VG Try.prog [] Try.f97 [.pointer r, .agg ⟨KL.vals [.int .i64, .int .i64, .int .i64, .int .i64, .int .i64, .int .i64, .int .i64, .bool, .sl] x⟩] h [.agg [.int .i64, .int .i64, .int .i64, .int .i64, .int .i64, .int .i64, .int .i64, .bool, .sl], .one (.int .i64)] R = S_wire_whole_api_Message r x h R := by kernel_rfl
theorem A_wire_whole_api_Message {r : Option Addr} {x : KL [.int .i64, .int .i64, .int .i64, .int .i64, .int .i64, .int .i64, .int .i64, .bool, .sl]} {h : Heap} {R : KL [.int .i64, .int .i64, .int .i64, .int .i64, .int .i64, .int .i64, .int .i64, .bool, .sl] → Int → Heap → Prop} (hs : S_wire_whole_api_Message r x h R) : C_wire_whole_api_Message r x h R :=
  useG_SX Try.func97 (by kernel_rfl) (E_wire_whole_api_Message r x h R) hs

end Go.Proofs.Ytnognoiaakiepaa
