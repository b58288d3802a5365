/- Printed by a program: what each function asks of the heap, that this is the reading of its code, and what follows for a call. -/
import Derived.Test.YtnognoiaakiepaaSC
import Derived.Test.YtnognoiaakiepaaVg
import Derived.Test.YtnognoiaakiepaaProg
set_option maxRecDepth 1000000
namespace Go.Proofs.Ytnognoiaakiepaa
open Go

theorem useG_SH {an : List (Nat × Slots)} {f : FuncId} {fn : Func} {args : List Value} {h : Heap} {ss : List Sh} {R : TH (Heap → Prop) ss} {S : Prop} (hf : Try.prog.funcs[f]? = some fn) (hb : codeOk fn args.length = true) (e : VG Try.prog an fn args h ss R = S) (hs : S) : CallR Try.prog f args h ss R := VG_sound (an := an) mixed_ hf hb (cast e.symm hs)
/-- hard.Records -/
def S_hard_Records (s : KL [.bool, .int .i64, .int .i64, .int .i64, .sl]) (h : Heap) (R : Sl → Heap → Prop) : Prop :=
  Alloc h (.cells #[.bool s.1, .int .i64 s.2.1, .int .i64 s.2.2.1, .int .i64 s.2.2.2.1, .slice s.2.2.2.2.1.a s.2.2.2.2.1.n s.2.2.2.2.1.c] 111) fun s1 h_ =>
  Ld .bool h_ s1 fun (Hard : Bool) =>
  Join [.one .sl] (fun _ (out : Sl) h_1 =>
    Ld .sl h_1 (s1.add 4) fun (Entries : Sl) =>
    Loop [.one .sl, .one (.int .i64)] (fun _ (out1 : Sl) (x22 : Int) h_2 go =>
      (bif decide (x22 < (Entries.n : Int)) then
        Ix Entries x22 2 fun e =>
        Ld (.int .i64) h_2 e fun (x_Term : Int) =>
        Ld .str h_2 (e.add 1) fun (x_Data : ByteArray) =>
        Alloc h_2 (.cells #[.int .i64 0, .string (⟨#[]⟩ : ByteArray)] 90) fun e1 h_3 =>
        St h_3 e1 (.int .i64 x_Term) fun h_4 =>
        St h_4 (e1.add 1) (.string x_Data) fun h_5 =>
        Ld (.int .i64) h_5 (s1.add 3) fun (From : Int) =>
        Ld (.int .i64) h_5 e1 fun (Term : Int) =>
        C_word_Int ⟨none, 0, 0⟩ (IntKind.i64.wrap (From + x22)) h_5 fun (r : Sl) h_6 =>
        (Ld (.int .i64) h_6 e1 fun (Term1 : Int) => (.int .i64 Term1 : Value) = .int .i64 Term) ∧
        C_word_Int r Term h_6 fun (r1 : Sl) h_7 =>
        Ld .str h_7 (e1.add 1) fun (Data : ByteArray) =>
        C_word_Text r1 Data h_7 fun (r2 : Sl) h_8 =>
        Alloc h_8 (.cells #[.int .u8 2, .slice r2.a r2.n r2.c] 24) fun b h_9 =>
        App Try.prog 26 26 out1 ⟨some b, 1, 1⟩ h_9 fun s2 h_10 =>
        go s2 (IntKind.i64.wrap (x22 + 1)) h_10
      else
        R out1 h_2
      )
      ) (out, 0, ()) h_1
    ) fun J =>
  (bif Hard then
    Ld (.int .i64) h_ (s1.add 1) fun (Term2 : Int) =>
    Ld (.int .i64) h_ (s1.add 2) fun (Vote : Int) =>
    C_word_Int ⟨none, 0, 0⟩ Term2 h_ fun (r3 : Sl) h_11 =>
    (Ld (.int .i64) h_11 (s1.add 2) fun (Vote1 : Int) => (.int .i64 Vote1 : Value) = .int .i64 Vote) ∧
    C_word_Int r3 Vote h_11 fun (r4 : Sl) h_12 =>
    Alloc h_12 (.cells #[.int .u8 1, .slice r4.a r4.n r4.c] 24) fun b1 h_13 =>
    App Try.prog 26 26 ⟨none, 0, 0⟩ ⟨some b1, 1, 1⟩ h_13 fun s3 h_14 =>
    J s3 h_14
  else
    J ⟨none, 0, 0⟩ h_
  )
theorem E_hard_Records (s : KL [.bool, .int .i64, .int .i64, .int .i64, .sl]) (h : Heap) (R : Sl → Heap → Prop) :
    VF Try.prog [(29, [(3, .one .sl)]), (122, [(3, .one .sl), (22, .one (.int .i64))])] Try.f64 [.agg ⟨KL.vals [.bool, .int .i64, .int .i64, .int .i64, .sl] s⟩] h [.one .sl] R = S_hard_Records s h R := by kernel_rfl
theorem A_hard_Records {s : KL [.bool, .int .i64, .int .i64, .int .i64, .sl]} {h : Heap} {R : Sl → Heap → Prop} (hs : S_hard_Records s h R) : C_hard_Records s h R :=
  use_ Try.func64 (by kernel_rfl) (E_hard_Records s h R) hs

/-- kissinggateref06.Records -/
def S_ref06_Records (s : KL [.bool, .int .i64, .int .i64, .int .i64, .sl]) (h : Heap) (R : Sl → Heap → Prop) : Prop :=
  Alloc h (.cells #[.bool s.1, .int .i64 s.2.1, .int .i64 s.2.2.1, .int .i64 s.2.2.2.1, .slice s.2.2.2.2.1.a s.2.2.2.2.1.n s.2.2.2.2.1.c] 111) fun s1 h_ =>
  Ld .bool h_ s1 fun (Hard : Bool) =>
  Join [.one .sl] (fun _ (out : Sl) h_1 =>
    Ld .sl h_1 (s1.add 4) fun (Entries : Sl) =>
    Loop [.one .sl, .one (.int .i64)] (fun _ (out1 : Sl) (x22 : Int) h_2 go =>
      (bif decide (x22 < (Entries.n : Int)) then
        Ix Entries x22 2 fun e =>
        Ld (.int .i64) h_2 e fun (x_Term : Int) =>
        Ld .str h_2 (e.add 1) fun (x_Data : ByteArray) =>
        Alloc h_2 (.cells #[.int .i64 0, .string (⟨#[]⟩ : ByteArray)] 90) fun e1 h_3 =>
        St h_3 e1 (.int .i64 x_Term) fun h_4 =>
        St h_4 (e1.add 1) (.string x_Data) fun h_5 =>
        Ld (.int .i64) h_5 (s1.add 3) fun (From : Int) =>
        Ld (.int .i64) h_5 e1 fun (Term : Int) =>
        Ld .str h_5 (e1.add 1) fun (Data : ByteArray) =>
        C_ref01_Int (IntKind.i64.wrap (From + x22)) h_5 fun (r : ByteArray) h_6 =>
        (Ld (.int .i64) h_6 e1 fun (Term1 : Int) => (.int .i64 Term1 : Value) = .int .i64 Term) ∧
        (Ld .str h_6 (e1.add 1) fun (Data1 : ByteArray) => (.string Data1 : Value) = .string Data) ∧
        C_ref01_Int Term h_6 fun (r1 : ByteArray) h_7 =>
        (Ld .str h_7 (e1.add 1) fun (Data2 : ByteArray) => (.string Data2 : Value) = .string Data) ∧
        Cat r r1 fun str =>
        C_ref01_Text Data h_7 fun (r2 : ByteArray) h_8 =>
        Cat str r2 fun str1 =>
        Alloc h_8 (.cells #[.int .u8 2, .string str1] 37) fun b h_9 =>
        App Try.prog 30 30 out1 ⟨some b, 1, 1⟩ h_9 fun s2 h_10 =>
        go s2 (IntKind.i64.wrap (x22 + 1)) h_10
      else
        R out1 h_2
      )
      ) (out, 0, ()) h_1
    ) fun J =>
  (bif Hard then
    Ld (.int .i64) h_ (s1.add 1) fun (Term2 : Int) =>
    Ld (.int .i64) h_ (s1.add 2) fun (Vote : Int) =>
    C_ref01_Int Term2 h_ fun (r3 : ByteArray) h_11 =>
    (Ld (.int .i64) h_11 (s1.add 2) fun (Vote1 : Int) => (.int .i64 Vote1 : Value) = .int .i64 Vote) ∧
    C_ref01_Int Vote h_11 fun (r4 : ByteArray) h_12 =>
    Cat r3 r4 fun str2 =>
    Alloc h_12 (.cells #[.int .u8 1, .string str2] 37) fun b1 h_13 =>
    App Try.prog 30 30 ⟨none, 0, 0⟩ ⟨some b1, 1, 1⟩ h_13 fun s3 h_14 =>
    J s3 h_14
  else
    J ⟨none, 0, 0⟩ h_
  )
theorem E_ref06_Records (s : KL [.bool, .int .i64, .int .i64, .int .i64, .sl]) (h : Heap) (R : Sl → Heap → Prop) :
    VF Try.prog [(29, [(3, .one .sl)]), (122, [(3, .one .sl), (22, .one (.int .i64))])] Try.f65 [.agg ⟨KL.vals [.bool, .int .i64, .int .i64, .int .i64, .sl] s⟩] h [.one .sl] R = S_ref06_Records s h R := by kernel_rfl
theorem A_ref06_Records {s : KL [.bool, .int .i64, .int .i64, .int .i64, .sl]} {h : Heap} {R : Sl → Heap → Prop} (hs : S_ref06_Records s h R) : C_ref06_Records s h R :=
  use_ Try.func65 (by kernel_rfl) (E_ref06_Records s h R) hs

/-- hard.Write -/
def S_hard_Write (d : Option Addr) (s : KL [.bool, .int .i64, .int .i64, .int .i64, .sl]) (h : Heap) (R : Int → Heap → Prop) : Prop :=
  Alloc h (.cells #[.bool s.1, .int .i64 s.2.1, .int .i64 s.2.2.1, .int .i64 s.2.2.2.1, .slice s.2.2.2.2.1.a s.2.2.2.2.1.n s.2.2.2.2.1.c] 111) fun s1 h_ =>
  Ld .bool h_ s1 fun (x_Hard : Bool) =>
  Ld (.int .i64) h_ (s1.add 1) fun (x_Term : Int) =>
  Ld (.int .i64) h_ (s1.add 2) fun (x_Vote : Int) =>
  Ld (.int .i64) h_ (s1.add 3) fun (x_From : Int) =>
  Ld .sl h_ (s1.add 4) fun (x_Entries : Sl) =>
  C_hard_Records (x_Hard, x_Term, x_Vote, x_From, x_Entries, ()) h_ fun (r : Sl) h_1 =>
  Loop [.one (.int .i64)] (fun _ (x11 : Int) h_2 go =>
    (bif decide (x11 < (r.n : Int)) then
      Ix r x11 2 fun e =>
      Ld (.int .u8) h_2 e fun (x_Kind : Int) =>
      Ld .sl h_2 (e.add 1) fun (x_Data : Sl) =>
      Alloc h_2 (.cells #[.int .u8 0, .slice none 0 0] 24) fun r1 h_3 =>
      St h_3 r1 (.int .u8 x_Kind) fun h_4 =>
      St h_4 (r1.add 1) (.slice x_Data.a x_Data.n x_Data.c) fun h_5 =>
      Ld (.int .u8) h_5 r1 fun (x_Kind1 : Int) =>
      Ld .sl h_5 (r1.add 1) fun (x_Data1 : Sl) =>
      C_wal_Append d (x_Kind1, x_Data1, ()) h_5 fun (r2 : Int) h_6 =>
      (bif r2 != 0 then
        R r2 h_6
      else
        go (IntKind.i64.wrap (x11 + 1)) h_6
      )
    else
      R 0 h_2
    )
    ) (0, ()) h_1
theorem E_hard_Write (d : Option Addr) (s : KL [.bool, .int .i64, .int .i64, .int .i64, .sl]) (h : Heap) (R : Int → Heap → Prop) :
    VF Try.prog [(26, [(11, .one (.int .i64))])] Try.f66 [.pointer d, .agg ⟨KL.vals [.bool, .int .i64, .int .i64, .int .i64, .sl] s⟩] h [.one (.int .i64)] R = S_hard_Write d s h R := by kernel_rfl
theorem A_hard_Write {d : Option Addr} {s : KL [.bool, .int .i64, .int .i64, .int .i64, .sl]} {h : Heap} {R : Int → Heap → Prop} (hs : S_hard_Write d s h R) : C_hard_Write d s h R :=
  use_ Try.func66 (by kernel_rfl) (E_hard_Write d s h R) hs

/-- hard.Recover -/
def S_hard_Recover (d : Option Addr) (h : Heap) (R : KL [.int .i64, .int .i64, .sl] → Int → Heap → Prop) : Prop :=
  Alloc h (.cells #[.int .i64 0, .int .i64 0, .slice none 0 0] 119) fun p h_ =>
  C_wal_Recover d h_ fun (r : Sl) (r1 : Int) h_1 =>
  (bif r1 != 0 then
    St h_1 p (.int .i64 0) fun h_2 =>
    St h_2 (p.add 1) (.int .i64 0) fun h_3 =>
    St h_3 (p.add 2) (.slice none 0 0) fun h_4 =>
    Ld (.int .i64) h_4 p fun (r_0 : Int) =>
    Ld (.int .i64) h_4 (p.add 1) fun (r_1 : Int) =>
    Ld .sl h_4 (p.add 2) fun (r_2 : Sl) =>
    R (r_0, r_1, r_2, ()) r1 h_4
  else
    C_hard_Play r h_1 fun (r2 : KL [.int .i64, .int .i64, .sl]) (r3 : Int) h_5 =>
    St h_5 p (.int .i64 r2.1) fun h_6 =>
    St h_6 (p.add 1) (.int .i64 r2.2.1) fun h_7 =>
    St h_7 (p.add 2) (.slice r2.2.2.1.a r2.2.2.1.n r2.2.2.1.c) fun h_8 =>
    Ld (.int .i64) h_8 p fun (r_01 : Int) =>
    Ld (.int .i64) h_8 (p.add 1) fun (r_11 : Int) =>
    Ld .sl h_8 (p.add 2) fun (r_21 : Sl) =>
    R (r_01, r_11, r_21, ()) r3 h_8
  )
theorem E_hard_Recover (d : Option Addr) (h : Heap) (R : KL [.int .i64, .int .i64, .sl] → Int → Heap → Prop) :
    VG Try.prog [] Try.f67 [.pointer d] h [.agg [.int .i64, .int .i64, .sl], .one (.int .i64)] R = S_hard_Recover d h R := by kernel_rfl
theorem A_hard_Recover {d : Option Addr} {h : Heap} {R : KL [.int .i64, .int .i64, .sl] → Int → Heap → Prop} (hs : S_hard_Recover d h R) : C_hard_Recover d h R :=
  useG_SH Try.func67 (by kernel_rfl) (E_hard_Recover d h R) hs

/-- kissinggateref06.Play -/
def S_ref06_Play (l : Sl) (h : Heap) (R : KL [.int .i64, .int .i64, .sl] → Bool → Heap → Prop) : Prop :=
  Alloc h (.cells #[.int .i64 0, .int .i64 0, .slice none 0 0] 119) fun p h_ =>
  Alloc h_ (.cells #[.int .i64 0, .int .i64 0, .slice none 0 0] 119) fun s h_1 =>
  St h_1 s (.int .i64 0) fun h_2 =>
  St h_2 (s.add 1) (.int .i64 (-1)) fun h_3 =>
  St h_3 (s.add 2) (.slice none 0 0) fun h_4 =>
  Loop [.one (.int .i64)] (fun _ (x13 : Int) h_5 go =>
    (bif decide (x13 < (l.n : Int)) then
      Ix l x13 2 fun e =>
      Ld (.int .u8) h_5 e fun (x_Kind : Int) =>
      Ld .str h_5 (e.add 1) fun (x_Data : ByteArray) =>
      Alloc h_5 (.cells #[.int .u8 0, .string (⟨#[]⟩ : ByteArray)] 37) fun x h_6 =>
      St h_6 x (.int .u8 x_Kind) fun h_7 =>
      St h_7 (x.add 1) (.string x_Data) fun h_8 =>
      Ld .str h_8 (x.add 1) fun (Data : ByteArray) =>
      Alloc h_8 (.cells #[.string Data, .bool false] 152) fun p1 h_9 =>
      Ld (.int .u8) h_9 x fun (Kind : Int) =>
      Join [] (fun _ h_10 =>
        Nn (some p1) fun p2 =>
        Ld .bool h_10 (p2.add 1) fun (Bad : Bool) =>
        (bif Bad then
          St h_10 p (.int .i64 0) fun h_11 =>
          St h_11 (p.add 1) (.int .i64 0) fun h_12 =>
          St h_12 (p.add 2) (.slice none 0 0) fun h_13 =>
          Ld (.int .i64) h_13 p fun (r_0 : Int) =>
          Ld (.int .i64) h_13 (p.add 1) fun (r_1 : Int) =>
          Ld .sl h_13 (p.add 2) fun (r_2 : Sl) =>
          R (r_0, r_1, r_2, ()) false h_13
        else
          Nn (some p1) fun p3 =>
          Ld .str h_10 p3 fun (S : ByteArray) =>
          (bif !(S.toList == (⟨#[]⟩ : ByteArray).toList) then
            St h_10 p (.int .i64 0) fun h_14 =>
            St h_14 (p.add 1) (.int .i64 0) fun h_15 =>
            St h_15 (p.add 2) (.slice none 0 0) fun h_16 =>
            Ld (.int .i64) h_16 p fun (r_01 : Int) =>
            Ld (.int .i64) h_16 (p.add 1) fun (r_11 : Int) =>
            Ld .sl h_16 (p.add 2) fun (r_21 : Sl) =>
            R (r_01, r_11, r_21, ()) false h_16
          else
            go (IntKind.i64.wrap (x13 + 1)) h_10
          )
        )
        ) fun J =>
      (bif Kind == 1 then
        C_ref01_Reader_Int (some p1) 0 1099511627776 h_9 fun (r : Int) h_17 =>
        St h_17 s (.int .i64 r) fun h_18 =>
        C_ref01_Reader_Int (some p1) (-1) 6 h_18 fun (r1 : Int) h_19 =>
        St h_19 (s.add 1) (.int .i64 r1) fun h_20 =>
        J  h_20
      else
        Ld (.int .u8) h_9 x fun (Kind1 : Int) =>
        (bif Kind1 == 2 then
          Ld .sl h_9 (s.add 2) fun (Entries : Sl) =>
          C_ref01_Reader_Int (some p1) 1 (IntKind.i64.wrap ((Entries.n : Int) + 1)) h_9 fun (r2 : Int) h_21 =>
          C_ref01_Reader_Int (some p1) 1 1099511627776 h_21 fun (r3 : Int) h_22 =>
          C_ref01_Reader_Text (some p1) 512 h_22 fun (r4 : ByteArray) h_23 =>
          Alloc h_23 (.cells #[.int .i64 0, .string (⟨#[]⟩ : ByteArray)] 90) fun e1 h_24 =>
          St h_24 e1 (.int .i64 r3) fun h_25 =>
          St h_25 (e1.add 1) (.string r4) fun h_26 =>
          Nn (some p1) fun p4 =>
          Ld .bool h_26 (p4.add 1) fun (Bad1 : Bool) =>
          (bif !Bad1 then
            Ld .sl h_26 (s.add 2) fun (Entries1 : Sl) =>
            Cut Try.prog 79 Entries1 none (some (.int .i64 (IntKind.i64.wrap (r2 - 1)))) none fun s1 =>
            Ld (.int .i64) h_26 e1 fun (x_Term : Int) =>
            Ld .str h_26 (e1.add 1) fun (x_Data1 : ByteArray) =>
            (
              Alloc h_26 (.cells #[] 90) fun b h_27 =>
              (Ld .sl h_27 (s.add 2) fun (Entries2 : Sl) => (.slice Entries2.a Entries2.n Entries2.c : Value) = .slice Entries1.a Entries1.n Entries1.c) ∧
              (Ld (.int .i64) h_27 e1 fun (x_Term1 : Int) => Ld .str h_27 (e1.add 1) fun (x_Data2 : ByteArray) => (.agg #[.int .i64 x_Term1, .string x_Data2] : Value) = .agg #[.int .i64 x_Term, .string x_Data1]) ∧
              (
                App Try.prog 79 79 ⟨some b, 0, 0⟩ s1 h_27 fun s2 h_28 =>
                (Ld (.int .i64) h_28 e1 fun (x_Term2 : Int) => Ld .str h_28 (e1.add 1) fun (x_Data3 : ByteArray) => (.agg #[.int .i64 x_Term2, .string x_Data3] : Value) = .agg #[.int .i64 x_Term, .string x_Data1]) ∧
                Alloc h_28 (.cells #[.int .i64 x_Term, .string x_Data1] 90) fun b1 h_29 =>
                (Ld .sl h_29 (s.add 2) fun (Entries3 : Sl) => (.slice Entries3.a Entries3.n Entries3.c : Value) = .slice Entries1.a Entries1.n Entries1.c) ∧
                App Try.prog 79 79 s2 ⟨some b1, 1, 1⟩ h_29 fun s3 h_30 =>
                St h_30 (s.add 2) (.slice s3.a s3.n s3.c) fun h_31 =>
                J  h_31
              ) ∧
              (
                Alloc h_27 (.cells #[.int .i64 x_Term, .string x_Data1] 90) fun b2 h_32 =>
                (Ld .sl h_32 (s.add 2) fun (Entries4 : Sl) => (.slice Entries4.a Entries4.n Entries4.c : Value) = .slice Entries1.a Entries1.n Entries1.c) ∧
                App Try.prog 79 79 ⟨some b, 0, 0⟩ s1 h_32 fun s4 h_33 =>
                (Ld (.int .i64) h_33 e1 fun (x_Term3 : Int) => Ld .str h_33 (e1.add 1) fun (x_Data4 : ByteArray) => (.agg #[.int .i64 x_Term3, .string x_Data4] : Value) = .agg #[.int .i64 x_Term, .string x_Data1]) ∧
                App Try.prog 79 79 s4 ⟨some b2, 1, 1⟩ h_33 fun s5 h_34 =>
                St h_34 (s.add 2) (.slice s5.a s5.n s5.c) fun h_35 =>
                J  h_35
              )
            ) ∧
            (
              Alloc h_26 (.cells #[.int .i64 x_Term, .string x_Data1] 90) fun b3 h_36 =>
              (Ld .sl h_36 (s.add 2) fun (Entries5 : Sl) => (.slice Entries5.a Entries5.n Entries5.c : Value) = .slice Entries1.a Entries1.n Entries1.c) ∧
              Alloc h_36 (.cells #[] 90) fun b4 h_37 =>
              (Ld .sl h_37 (s.add 2) fun (Entries6 : Sl) => (.slice Entries6.a Entries6.n Entries6.c : Value) = .slice Entries1.a Entries1.n Entries1.c) ∧
              (Ld (.int .i64) h_37 e1 fun (x_Term4 : Int) => Ld .str h_37 (e1.add 1) fun (x_Data5 : ByteArray) => (.agg #[.int .i64 x_Term4, .string x_Data5] : Value) = .agg #[.int .i64 x_Term, .string x_Data1]) ∧
              App Try.prog 79 79 ⟨some b4, 0, 0⟩ s1 h_37 fun s6 h_38 =>
              (Ld (.int .i64) h_38 e1 fun (x_Term5 : Int) => Ld .str h_38 (e1.add 1) fun (x_Data6 : ByteArray) => (.agg #[.int .i64 x_Term5, .string x_Data6] : Value) = .agg #[.int .i64 x_Term, .string x_Data1]) ∧
              App Try.prog 79 79 s6 ⟨some b3, 1, 1⟩ h_38 fun s7 h_39 =>
              St h_39 (s.add 2) (.slice s7.a s7.n s7.c) fun h_40 =>
              J  h_40
            )
          else
            J  h_26
          )
        else
          St h_9 p (.int .i64 0) fun h_41 =>
          St h_41 (p.add 1) (.int .i64 0) fun h_42 =>
          St h_42 (p.add 2) (.slice none 0 0) fun h_43 =>
          Ld (.int .i64) h_43 p fun (r_02 : Int) =>
          Ld (.int .i64) h_43 (p.add 1) fun (r_12 : Int) =>
          Ld .sl h_43 (p.add 2) fun (r_22 : Sl) =>
          R (r_02, r_12, r_22, ()) false h_43
        )
      )
    else
      Ld (.int .i64) h_5 s fun (x_Term6 : Int) =>
      Ld (.int .i64) h_5 (s.add 1) fun (x_Vote : Int) =>
      Ld .sl h_5 (s.add 2) fun (x_Entries : Sl) =>
      C_ref06_Right (x_Term6, x_Vote, x_Entries, ()) h_5 fun (r5 : Bool) h_44 =>
      (bif !r5 then
        St h_44 p (.int .i64 0) fun h_45 =>
        St h_45 (p.add 1) (.int .i64 0) fun h_46 =>
        St h_46 (p.add 2) (.slice none 0 0) fun h_47 =>
        Ld (.int .i64) h_47 p fun (r_03 : Int) =>
        Ld (.int .i64) h_47 (p.add 1) fun (r_13 : Int) =>
        Ld .sl h_47 (p.add 2) fun (r_23 : Sl) =>
        R (r_03, r_13, r_23, ()) false h_47
      else
        Ld (.int .i64) h_44 s fun (x_Term7 : Int) =>
        Ld (.int .i64) h_44 (s.add 1) fun (x_Vote1 : Int) =>
        Ld .sl h_44 (s.add 2) fun (x_Entries1 : Sl) =>
        St h_44 p (.int .i64 x_Term7) fun h_48 =>
        St h_48 (p.add 1) (.int .i64 x_Vote1) fun h_49 =>
        St h_49 (p.add 2) (.slice x_Entries1.a x_Entries1.n x_Entries1.c) fun h_50 =>
        Ld (.int .i64) h_50 p fun (r_04 : Int) =>
        Ld (.int .i64) h_50 (p.add 1) fun (r_14 : Int) =>
        Ld .sl h_50 (p.add 2) fun (r_24 : Sl) =>
        R (r_04, r_14, r_24, ()) true h_50
      )
    )
    ) (0, ()) h_4
theorem E_ref06_Play (l : Sl) (h : Heap) (R : KL [.int .i64, .int .i64, .sl] → Bool → Heap → Prop) :
    VG Try.prog [(58, [(13, .one (.int .i64))]), (29901, [])] Try.f68 [.slice l.a l.n l.c] h [.agg [.int .i64, .int .i64, .sl], .one .bool] R = S_ref06_Play l h R := by kernel_rfl
theorem A_ref06_Play {l : Sl} {h : Heap} {R : KL [.int .i64, .int .i64, .sl] → Bool → Heap → Prop} (hs : S_ref06_Play l h R) : C_ref06_Play l h R :=
  useG_SH Try.func68 (by kernel_rfl) (E_ref06_Play l h R) hs

/-- kissinggateref06.Same -/
def S_ref06_Same (a : KL [.int .i64, .int .i64, .sl]) (b : KL [.int .i64, .int .i64, .sl]) (h : Heap) (R : Bool → Heap → Prop) : Prop :=
  Alloc h (.cells #[.int .i64 a.1, .int .i64 a.2.1, .slice a.2.2.1.a a.2.2.1.n a.2.2.1.c] 119) fun a1 h_ =>
  Alloc h_ (.cells #[.int .i64 b.1, .int .i64 b.2.1, .slice b.2.2.1.a b.2.2.1.n b.2.2.1.c] 119) fun b1 h_1 =>
  Ld (.int .i64) h_1 a1 fun (Term : Int) =>
  Ld (.int .i64) h_1 b1 fun (Term1 : Int) =>
  (bif Term != Term1 then
    R false h_1
  else
    Ld (.int .i64) h_1 (a1.add 1) fun (Vote : Int) =>
    Ld (.int .i64) h_1 (b1.add 1) fun (Vote1 : Int) =>
    (bif Vote != Vote1 then
      R false h_1
    else
      Ld .sl h_1 (a1.add 2) fun (Entries : Sl) =>
      Ld .sl h_1 (b1.add 2) fun (Entries1 : Sl) =>
      (bif (Entries.n : Int) != (Entries1.n : Int) then
        R false h_1
      else
        Ld .sl h_1 (a1.add 2) fun (Entries2 : Sl) =>
        Loop [.one (.int .i64)] (fun _ (x30 : Int) h_2 go =>
          (bif decide (x30 < (Entries2.n : Int)) then
            Ld .sl h_2 (a1.add 2) fun (Entries3 : Sl) =>
            Ix Entries3 x30 2 fun e =>
            Ld (.int .i64) h_2 e fun (x_Term : Int) =>
            Ld .str h_2 (e.add 1) fun (x_Data : ByteArray) =>
            Ld .sl h_2 (b1.add 2) fun (Entries4 : Sl) =>
            Ix Entries4 x30 2 fun e1 =>
            Ld (.int .i64) h_2 e1 fun (x_Term1 : Int) =>
            Ld .str h_2 (e1.add 1) fun (x_Data1 : ByteArray) =>
            OpV Try.prog (do eqGuard .neq 90 (.tmp 37) (.tmp 42) (.agg #[.int .i64 x_Term, .string x_Data]) (.agg #[.int .i64 x_Term1, .string x_Data1]); binOp .neq 90 (.agg #[.int .i64 x_Term, .string x_Data]) (.agg #[.int .i64 x_Term1, .string x_Data1])) h_2 [.one .bool] fun (q : Bool) =>
            (bif q then
              R false h_2
            else
              go (IntKind.i64.wrap (x30 + 1)) h_2
            )
          else
            R true h_2
          )
          ) (0, ()) h_1
      )
    )
  )
theorem E_ref06_Same (a : KL [.int .i64, .int .i64, .sl]) (b : KL [.int .i64, .int .i64, .sl]) (h : Heap) (R : Bool → Heap → Prop) :
    VF Try.prog [(58, [(30, .one (.int .i64))])] Try.f69 [.agg ⟨KL.vals [.int .i64, .int .i64, .sl] a⟩, .agg ⟨KL.vals [.int .i64, .int .i64, .sl] b⟩] h [.one .bool] R = S_ref06_Same a b h R := by kernel_rfl
theorem A_ref06_Same {a : KL [.int .i64, .int .i64, .sl]} {b : KL [.int .i64, .int .i64, .sl]} {h : Heap} {R : Bool → Heap → Prop} (hs : S_ref06_Same a b h R) : C_ref06_Same a b h R :=
  use_ Try.func69 (by kernel_rfl) (E_ref06_Same a b h R) hs

/-- hard.Play -/
def S_hard_Play (l : Sl) (h : Heap) (R : KL [.int .i64, .int .i64, .sl] → Int → Heap → Prop) : Prop :=
  Alloc h (.cells #[.int .i64 0, .int .i64 0, .slice none 0 0] 119) fun p h_ =>
  Alloc h_ (.cells #[.int .i64 0, .int .i64 (-1), .slice none 0 0] 178) fun p1 h_1 =>
  Loop [.one (.int .i64)] (fun _ (x13 : Int) h_2 go =>
    (bif decide (x13 < (l.n : Int)) then
      Ix l x13 2 fun e =>
      Ld (.int .u8) h_2 e fun (x_Kind : Int) =>
      Ld .sl h_2 (e.add 1) fun (x_Data : Sl) =>
      Alloc h_2 (.cells #[.int .u8 0, .slice none 0 0] 24) fun x h_3 =>
      St h_3 x (.int .u8 x_Kind) fun h_4 =>
      St h_4 (x.add 1) (.slice x_Data.a x_Data.n x_Data.c) fun h_5 =>
      Ld .sl h_5 (x.add 1) fun (Data : Sl) =>
      C_word_Read Data h_5 fun (r : Option Addr) h_6 =>
      Ld (.int .u8) h_6 x fun (Kind : Int) =>
      Join [] (fun _ h_7 =>
        C_word_Reader_Done r h_7 fun (r1 : Bool) h_8 =>
        (bif !r1 then
          St h_8 p (.int .i64 0) fun h_9 =>
          St h_9 (p.add 1) (.int .i64 0) fun h_10 =>
          St h_10 (p.add 2) (.slice none 0 0) fun h_11 =>
          Ld (.int .i64) h_11 p fun (r_0 : Int) =>
          Ld (.int .i64) h_11 (p.add 1) fun (r_1 : Int) =>
          Ld .sl h_11 (p.add 2) fun (r_2 : Sl) =>
          R (r_0, r_1, r_2, ()) 2 h_11
        else
          go (IntKind.i64.wrap (x13 + 1)) h_8
        )
        ) fun J =>
      (bif Kind == 1 then
        C_hard_player_vote (some p1) r h_6 fun h_12 =>
        J  h_12
      else
        (bif Kind == 2 then
          C_hard_player_entry (some p1) r h_6 fun h_13 =>
          J  h_13
        else
          St h_6 p (.int .i64 0) fun h_14 =>
          St h_14 (p.add 1) (.int .i64 0) fun h_15 =>
          St h_15 (p.add 2) (.slice none 0 0) fun h_16 =>
          Ld (.int .i64) h_16 p fun (r_01 : Int) =>
          Ld (.int .i64) h_16 (p.add 1) fun (r_11 : Int) =>
          Ld .sl h_16 (p.add 2) fun (r_21 : Sl) =>
          R (r_01, r_11, r_21, ()) 2 h_16
        )
      )
    else
      Nn (some p1) fun p2 =>
      Ld (.int .i64) h_2 p2 fun (s_Term : Int) =>
      Ld (.int .i64) h_2 (p2.add 1) fun (s_Vote : Int) =>
      Ld .sl h_2 (p2.add 2) fun (s_Entries : Sl) =>
      C_hard_Right (s_Term, s_Vote, s_Entries, ()) h_2 fun (r2 : Bool) h_17 =>
      (bif !r2 then
        St h_17 p (.int .i64 0) fun h_18 =>
        St h_18 (p.add 1) (.int .i64 0) fun h_19 =>
        St h_19 (p.add 2) (.slice none 0 0) fun h_20 =>
        Ld (.int .i64) h_20 p fun (r_02 : Int) =>
        Ld (.int .i64) h_20 (p.add 1) fun (r_12 : Int) =>
        Ld .sl h_20 (p.add 2) fun (r_22 : Sl) =>
        R (r_02, r_12, r_22, ()) 2 h_20
      else
        Nn (some p1) fun p3 =>
        Ld (.int .i64) h_17 p3 fun (s_Term1 : Int) =>
        Ld (.int .i64) h_17 (p3.add 1) fun (s_Vote1 : Int) =>
        Ld .sl h_17 (p3.add 2) fun (s_Entries1 : Sl) =>
        St h_17 p (.int .i64 s_Term1) fun h_21 =>
        St h_21 (p.add 1) (.int .i64 s_Vote1) fun h_22 =>
        St h_22 (p.add 2) (.slice s_Entries1.a s_Entries1.n s_Entries1.c) fun h_23 =>
        Ld (.int .i64) h_23 p fun (r_03 : Int) =>
        Ld (.int .i64) h_23 (p.add 1) fun (r_13 : Int) =>
        Ld .sl h_23 (p.add 2) fun (r_23 : Sl) =>
        R (r_03, r_13, r_23, ()) 0 h_23
      )
    )
    ) (0, ()) h_1
theorem E_hard_Play (l : Sl) (h : Heap) (R : KL [.int .i64, .int .i64, .sl] → Int → Heap → Prop) :
    VG Try.prog [(58, [(13, .one (.int .i64))]), (29901, [])] Try.f102 [.slice l.a l.n l.c] h [.agg [.int .i64, .int .i64, .sl], .one (.int .i64)] R = S_hard_Play l h R := by kernel_rfl
theorem A_hard_Play {l : Sl} {h : Heap} {R : KL [.int .i64, .int .i64, .sl] → Int → Heap → Prop} (hs : S_hard_Play l h R) : C_hard_Play l h R :=
  useG_SH Try.func102 (by kernel_rfl) (E_hard_Play l h R) hs

/-- hard.Right -/
def S_hard_Right (s : KL [.int .i64, .int .i64, .sl]) (h : Heap) (R : Bool → Heap → Prop) : Prop :=
  Alloc h (.cells #[.int .i64 s.1, .int .i64 s.2.1, .slice s.2.2.1.a s.2.2.1.n s.2.2.1.c] 119) fun s1 h_ =>
  Ld (.int .i64) h_ s1 fun (Term : Int) =>
  (bif decide (Term < 0) then
    R false h_
  else
    Ld (.int .i64) h_ s1 fun (Term1 : Int) =>
    (bif decide (Term1 > 1099511627776) then
      R false h_
    else
      Ld (.int .i64) h_ (s1.add 1) fun (Vote : Int) =>
      (bif decide (Vote < (-1)) then
        R false h_
      else
        Ld (.int .i64) h_ (s1.add 1) fun (Vote1 : Int) =>
        (bif decide (Vote1 ≥ 7) then
          R false h_
        else
          Ld .sl h_ (s1.add 2) fun (Entries : Sl) =>
          (bif decide ((Entries.n : Int) > 1024) then
            R false h_
          else
            Ld .sl h_ (s1.add 2) fun (Entries1 : Sl) =>
            Loop [.one (.int .i64), .one (.int .i64)] (fun _ (last : Int) (x33 : Int) h_1 go =>
              (bif decide (x33 < (Entries1.n : Int)) then
                Ix Entries1 x33 2 fun e =>
                Ld (.int .i64) h_1 e fun (x_Term : Int) =>
                Ld .str h_1 (e.add 1) fun (x_Data : ByteArray) =>
                Alloc h_1 (.cells #[.int .i64 0, .string (⟨#[]⟩ : ByteArray)] 90) fun e1 h_2 =>
                St h_2 e1 (.int .i64 x_Term) fun h_3 =>
                St h_3 (e1.add 1) (.string x_Data) fun h_4 =>
                Ld (.int .i64) h_4 e1 fun (Term2 : Int) =>
                (bif decide (Term2 < last) then
                  R false h_4
                else
                  Ld (.int .i64) h_4 e1 fun (Term3 : Int) =>
                  Ld (.int .i64) h_4 s1 fun (Term4 : Int) =>
                  (bif decide (Term3 > Term4) then
                    R false h_4
                  else
                    Ld .str h_4 (e1.add 1) fun (Data : ByteArray) =>
                    (bif decide ((Data.size : Int) > 512) then
                      R false h_4
                    else
                      Ld (.int .i64) h_4 e1 fun (Term5 : Int) =>
                      go Term5 (IntKind.i64.wrap (x33 + 1)) h_4
                    )
                  )
                )
              else
                R true h_1
              )
              ) (1, 0, ()) h_
          )
        )
      )
    )
  )
theorem E_hard_Right (s : KL [.int .i64, .int .i64, .sl]) (h : Heap) (R : Bool → Heap → Prop) :
    VF Try.prog [(122, [(3, .one (.int .i64)), (33, .one (.int .i64))])] Try.f103 [.agg ⟨KL.vals [.int .i64, .int .i64, .sl] s⟩] h [.one .bool] R = S_hard_Right s h R := by kernel_rfl
theorem A_hard_Right {s : KL [.int .i64, .int .i64, .sl]} {h : Heap} {R : Bool → Heap → Prop} (hs : S_hard_Right s h R) : C_hard_Right s h R :=
  use_ Try.func103 (by kernel_rfl) (E_hard_Right s h R) hs

/-- kissinggateref06.Right -/
def S_ref06_Right (s : KL [.int .i64, .int .i64, .sl]) (h : Heap) (R : Bool → Heap → Prop) : Prop :=
  Alloc h (.cells #[.int .i64 s.1, .int .i64 s.2.1, .slice s.2.2.1.a s.2.2.1.n s.2.2.1.c] 119) fun s1 h_ =>
  Ld (.int .i64) h_ s1 fun (Term : Int) =>
  (bif decide (Term < 0) then
    R false h_
  else
    Ld (.int .i64) h_ s1 fun (Term1 : Int) =>
    (bif decide (Term1 > 1099511627776) then
      R false h_
    else
      Ld (.int .i64) h_ (s1.add 1) fun (Vote : Int) =>
      (bif decide (Vote < (-1)) then
        R false h_
      else
        Ld (.int .i64) h_ (s1.add 1) fun (Vote1 : Int) =>
        (bif decide (Vote1 > 6) then
          R false h_
        else
          Ld .sl h_ (s1.add 2) fun (Entries : Sl) =>
          (bif decide ((Entries.n : Int) > 1024) then
            R false h_
          else
            Ld .sl h_ (s1.add 2) fun (Entries1 : Sl) =>
            Loop [.one (.int .i64), .one (.int .i64)] (fun _ (last : Int) (x33 : Int) h_1 go =>
              (bif decide (x33 < (Entries1.n : Int)) then
                Ix Entries1 x33 2 fun e =>
                Ld (.int .i64) h_1 e fun (x_Term : Int) =>
                Ld .str h_1 (e.add 1) fun (x_Data : ByteArray) =>
                Alloc h_1 (.cells #[.int .i64 0, .string (⟨#[]⟩ : ByteArray)] 90) fun e1 h_2 =>
                St h_2 e1 (.int .i64 x_Term) fun h_3 =>
                St h_3 (e1.add 1) (.string x_Data) fun h_4 =>
                Ld (.int .i64) h_4 e1 fun (Term2 : Int) =>
                (bif decide (Term2 < last) then
                  R false h_4
                else
                  Ld (.int .i64) h_4 e1 fun (Term3 : Int) =>
                  Ld (.int .i64) h_4 s1 fun (Term4 : Int) =>
                  (bif decide (Term3 > Term4) then
                    R false h_4
                  else
                    Ld .str h_4 (e1.add 1) fun (Data : ByteArray) =>
                    (bif decide ((Data.size : Int) > 512) then
                      R false h_4
                    else
                      Ld (.int .i64) h_4 e1 fun (Term5 : Int) =>
                      go Term5 (IntKind.i64.wrap (x33 + 1)) h_4
                    )
                  )
                )
              else
                R true h_1
              )
              ) (1, 0, ()) h_
          )
        )
      )
    )
  )
theorem E_ref06_Right (s : KL [.int .i64, .int .i64, .sl]) (h : Heap) (R : Bool → Heap → Prop) :
    VF Try.prog [(122, [(3, .one (.int .i64)), (33, .one (.int .i64))])] Try.f104 [.agg ⟨KL.vals [.int .i64, .int .i64, .sl] s⟩] h [.one .bool] R = S_ref06_Right s h R := by kernel_rfl
theorem A_ref06_Right {s : KL [.int .i64, .int .i64, .sl]} {h : Heap} {R : Bool → Heap → Prop} (hs : S_ref06_Right s h R) : C_ref06_Right s h R :=
  use_ Try.func104 (by kernel_rfl) (E_ref06_Right s h R) hs

/-- (*hard.player).vote -/
def S_hard_player_vote (p : Option Addr) (r : Option Addr) (h : Heap) (R : Heap → Prop) : Prop :=
  C_word_Reader_Int r 0 1099511627776 h fun (r1 : Int) h_ =>
  Nn p fun p1 =>
  St h_ p1 (.int .i64 r1) fun h_1 =>
  C_word_Reader_Int r (-1) 6 h_1 fun (r2 : Int) h_2 =>
  Nn p fun p2 =>
  St h_2 (p2.add 1) (.int .i64 r2) fun h_3 =>
  R h_3
theorem E_hard_player_vote (p : Option Addr) (r : Option Addr) (h : Heap) (R : Heap → Prop) :
    VF Try.prog [] Try.f117 [.pointer p, .pointer r] h [] R = S_hard_player_vote p r h R := by kernel_rfl
theorem A_hard_player_vote {p : Option Addr} {r : Option Addr} {h : Heap} {R : Heap → Prop} (hs : S_hard_player_vote p r h R) : C_hard_player_vote p r h R :=
  use_ Try.func117 (by kernel_rfl) (E_hard_player_vote p r h R) hs

/-- (*hard.player).entry -/
def S_hard_player_entry (p : Option Addr) (r : Option Addr) (h : Heap) (R : Heap → Prop) : Prop :=
  Nn p fun p1 =>
  Ld .sl h (p1.add 2) fun (Entries : Sl) =>
  Let ((Entries.n : Int) : Int) fun n =>
  C_word_Reader_Int r 1 (IntKind.i64.wrap (n + 1)) h fun (r1 : Int) h_ =>
  C_word_Reader_Int r 1 1099511627776 h_ fun (r2 : Int) h_1 =>
  C_word_Reader_Text r 512 h_1 fun (r3 : ByteArray) h_2 =>
  Alloc h_2 (.cells #[.int .i64 0, .string (⟨#[]⟩ : ByteArray)] 90) fun e h_3 =>
  St h_3 e (.int .i64 r2) fun h_4 =>
  St h_4 (e.add 1) (.string r3) fun h_5 =>
  C_word_Reader_Fail r h_5 fun (r4 : Bool) h_6 =>
  (bif !r4 then
    Nn p fun p2 =>
    Ld .sl h_6 (p2.add 2) fun (Entries1 : Sl) =>
    Cut Try.prog 79 Entries1 none (some (.int .i64 (IntKind.i64.wrap (r1 - 1)))) (some (.int .i64 (IntKind.i64.wrap (r1 - 1)))) fun s =>
    Ld (.int .i64) h_6 e fun (x_Term : Int) =>
    Ld .str h_6 (e.add 1) fun (x_Data : ByteArray) =>
    Alloc h_6 (.cells #[.int .i64 x_Term, .string x_Data] 90) fun b h_7 =>
    (Ld .sl h_7 (p2.add 2) fun (Entries2 : Sl) => (.slice Entries2.a Entries2.n Entries2.c : Value) = .slice Entries1.a Entries1.n Entries1.c) ∧
    App Try.prog 79 79 s ⟨some b, 1, 1⟩ h_7 fun s1 h_8 =>
    Nn p fun p3 =>
    St h_8 (p3.add 2) (.slice s1.a s1.n s1.c) fun h_9 =>
    R h_9
  else
    R h_6
  )
theorem E_hard_player_entry (p : Option Addr) (r : Option Addr) (h : Heap) (R : Heap → Prop) :
    VF Try.prog [] Try.f118 [.pointer p, .pointer r] h [] R = S_hard_player_entry p r h R := by kernel_rfl
theorem A_hard_player_entry {p : Option Addr} {r : Option Addr} {h : Heap} {R : Heap → Prop} (hs : S_hard_player_entry p r h R) : C_hard_player_entry p r h R :=
  use_ Try.func118 (by kernel_rfl) (E_hard_player_entry p r h R) hs

end Go.Proofs.Ytnognoiaakiepaa
