/- Printed by a program: what each function asks of the heap, that this is the reading of its code, and what follows for a call. -/
import Derived.Test.YtfafikomhbedbaaSC
import Derived.Test.YtfafikomhbedbaaProg
set_option maxRecDepth 1000000
namespace Go.Proofs.Ytfafikomhbedbaa
open Go

/-- kissinggatelaw01.WordPuts -/
def S_law01_WordPuts (n : Int) (s : ByteArray) (yes : Bool) (least : Int) (most : Int) (h : Heap) (R : Bool → Heap → Prop) : Prop :=
  C_law01_fixed  h fun (r : Bool) h_ =>
  (bif !r then
    R false h_
  else
    (bif decide ((s.size : Int) > 70000) then
      R true h_
    else
      Alloc h_ (.cells #[.int .u8 7] 5) fun b h_1 =>
      C_word_Int ⟨some b, 1, 1⟩ n h_1 fun (r1 : Sl) h_2 =>
      C_word_Text r1 s h_2 fun (r2 : Sl) h_3 =>
      C_word_Bool r2 yes h_3 fun (r3 : Sl) h_4 =>
      ToS Try.prog 23 9 r3 h_4 fun str =>
      C_ref01_Int n h_4 fun (r4 : ByteArray) h_5 =>
      (ToS Try.prog 23 9 r3 h_5 fun str1 => (.string str1 : Value) = .string str) ∧
      Cat (⟨#[7]⟩ : ByteArray) r4 fun str2 =>
      C_ref01_Text s h_5 fun (r5 : ByteArray) h_6 =>
      (ToS Try.prog 23 9 r3 h_6 fun str3 => (.string str3 : Value) = .string str) ∧
      Cat str2 r5 fun str4 =>
      C_ref01_Bool yes h_6 fun (r6 : ByteArray) h_7 =>
      (ToS Try.prog 23 9 r3 h_7 fun str5 => (.string str5 : Value) = .string str) ∧
      Cat str4 r6 fun str6 =>
      (bif !(str.toList == str6.toList) then
        R false h_7
      else
        Cut Try.prog 23 r3 (some (.int .i64 1)) none none fun s1 =>
        C_word_Read s1 h_7 fun (r7 : Option Addr) h_8 =>
        C_word_Reader_Int r7 least most h_8 fun (r8 : Int) h_9 =>
        (bif decide (n < least) then
          Join [.one .bool] (fun _ (x10 : Bool) h_10 =>
            R x10 h_10
            ) fun J =>
          (bif r8 == 0 then
            C_word_Reader_Fail r7 h_9 fun (r9 : Bool) h_11 =>
            (bif r9 then
              C_word_Reader_Text r7 99 h_11 fun (r10 : ByteArray) h_12 =>
              (bif r10.toList == (⟨#[]⟩ : ByteArray).toList then
                C_word_Reader_Bool r7 h_12 fun (r11 : Bool) h_13 =>
                (bif !r11 then
                  C_word_Reader_Left r7 h_13 fun (r12 : Int) h_14 =>
                  J (r12 == 0) h_14
                else
                  J false h_13
                )
              else
                J false h_12
              )
            else
              J false h_11
            )
          else
            J false h_9
          )
        else
          (bif decide (n > most) then
            Join [.one .bool] (fun _ (x101 : Bool) h_15 =>
              R x101 h_15
              ) fun J1 =>
            (bif r8 == 0 then
              C_word_Reader_Fail r7 h_9 fun (r13 : Bool) h_16 =>
              (bif r13 then
                C_word_Reader_Text r7 99 h_16 fun (r14 : ByteArray) h_17 =>
                (bif r14.toList == (⟨#[]⟩ : ByteArray).toList then
                  C_word_Reader_Bool r7 h_17 fun (r15 : Bool) h_18 =>
                  (bif !r15 then
                    C_word_Reader_Left r7 h_18 fun (r16 : Int) h_19 =>
                    J1 (r16 == 0) h_19
                  else
                    J1 false h_18
                  )
                else
                  J1 false h_17
                )
              else
                J1 false h_16
              )
            else
              J1 false h_9
            )
          else
            C_word_Reader_Text r7 65535 h_9 fun (r17 : ByteArray) h_20 =>
            (bif r8 == n then
              CutS Try.prog 9 s none (some (.int .i64 (if 65535 < (s.size : Int) then 65535 else (s.size : Int)))) fun s2 =>
              (bif r17.toList == s2.toList then
                C_word_Reader_Bool r7 h_20 fun (r18 : Bool) h_21 =>
                (bif r18 == yes then
                  C_word_Reader_Done r7 h_21 fun (r19 : Bool) h_22 =>
                  R r19 h_22
                else
                  R false h_21
                )
              else
                R false h_20
              )
            else
              R false h_20
            )
          )
        )
      )
    )
  )
theorem E_law01_WordPuts (n : Int) (s : ByteArray) (yes : Bool) (least : Int) (most : Int) (h : Heap) (R : Bool → Heap → Prop) :
    VF Try.prog [(4084, [(10, .one .bool)]), (4084, [(10, .one .bool)])] Try.f3 [.int .i64 n, .string s, .bool yes, .int .i64 least, .int .i64 most] h [.one .bool] R = S_law01_WordPuts n s yes least most h R := by kernel_rfl
theorem A_law01_WordPuts {n : Int} {s : ByteArray} {yes : Bool} {least : Int} {most : Int} {h : Heap} {R : Bool → Heap → Prop} (hs : S_law01_WordPuts n s yes least most h R) : C_law01_WordPuts n s yes least most h R :=
  VF_sound (an := [(4084, [(10, .one .bool)]), (4084, [(10, .one .bool)])]) (fn := Try.f3) (args := [.int .i64 n, .string s, .bool yes, .int .i64 least, .int .i64 most]) mixed_ Try.func3 (by kernel_rfl) (cast (E_law01_WordPuts n s yes least most h R).symm hs)

/-- kissinggatelaw01.WordReads -/
def S_law01_WordReads (b : Sl) (l : Sl) (h : Heap) (R : Bool → Heap → Prop) : Prop :=
  C_law01_fixed  h fun (r : Bool) h_ =>
  (bif !r then
    R false h_
  else
    (bif decide ((b.n : Int) > 400) then
      R true h_
    else
      (bif decide ((l.n : Int) > 60) then
        R true h_
      else
        Join [.one .ptr, .one .ptr] (fun _ (r1 : Option Addr) (p : Option Addr) h_1 =>
          Loop [.one (.int .i64)] (fun _ (x27 : Int) h_2 go =>
            (bif decide (x27 < (l.n : Int)) then
              Ix l x27 3 fun e =>
              Ld (.int .u8) h_2 e fun (x_Kind : Int) =>
              Ld (.int .i64) h_2 (e.add 1) fun (x_Least : Int) =>
              Ld (.int .i64) h_2 (e.add 2) fun (x_Most : Int) =>
              Alloc h_2 (.cells #[.int .u8 0, .int .i64 0, .int .i64 0] 40) fun a h_3 =>
              St h_3 a (.int .u8 x_Kind) fun h_4 =>
              St h_4 (a.add 1) (.int .i64 x_Least) fun h_5 =>
              St h_5 (a.add 2) (.int .i64 x_Most) fun h_6 =>
              Ld (.int .u8) h_6 a fun (Kind : Int) =>
              Nz 3 (
              Join [] (fun _ h_7 =>
                Nn p fun p1 =>
                Ld .bool h_7 (p1.add 1) fun (Bad : Bool) =>
                C_word_Reader_Fail r1 h_7 fun (r2 : Bool) h_8 =>
                (Ld .bool h_8 (p1.add 1) fun (Bad1 : Bool) => (.bool Bad1 : Value) = .bool Bad) ∧
                (bif !(r2 == Bad) then
                  R false h_8
                else
                  Nn p fun p2 =>
                  Ld .str h_8 p2 fun (S : ByteArray) =>
                  C_word_Reader_Left r1 h_8 fun (r3 : Int) h_9 =>
                  (Ld .str h_9 p2 fun (S1 : ByteArray) => (.string S1 : Value) = .string S) ∧
                  (bif r3 != (S.size : Int) then
                    R false h_9
                  else
                    Nn p fun p3 =>
                    Ld .bool h_9 (p3.add 1) fun (Bad2 : Bool) =>
                    C_word_Reader_Done r1 h_9 fun (r4 : Bool) h_10 =>
                    (Ld .bool h_10 (p3.add 1) fun (Bad3 : Bool) => (.bool Bad3 : Value) = .bool Bad2) ∧
                    (bif !Bad2 then
                      Nn p fun p4 =>
                      Ld .str h_10 p4 fun (S2 : ByteArray) =>
                      (bif !(r4 == (S2.toList == (⟨#[]⟩ : ByteArray).toList)) then
                        R false h_10
                      else
                        go (IntKind.i64.wrap (x27 + 1)) h_10
                      )
                    else
                      (bif !(r4 == false) then
                        R false h_10
                      else
                        go (IntKind.i64.wrap (x27 + 1)) h_10
                      )
                    )
                  )
                )
                ) fun J1 =>
              (bif (divV .rem .u8 Kind 3) == 0 then
                Ld (.int .i64) h_6 (a.add 1) fun (Least : Int) =>
                Ld (.int .i64) h_6 (a.add 2) fun (Most : Int) =>
                Ld (.int .i64) h_6 (a.add 1) fun (Least1 : Int) =>
                Ld (.int .i64) h_6 (a.add 2) fun (Most1 : Int) =>
                C_word_Reader_Int r1 Least Most h_6 fun (r5 : Int) h_11 =>
                (Ld (.int .i64) h_11 (a.add 1) fun (Least2 : Int) => (.int .i64 Least2 : Value) = .int .i64 Least1) ∧
                (Ld (.int .i64) h_11 (a.add 2) fun (Most2 : Int) => (.int .i64 Most2 : Value) = .int .i64 Most1) ∧
                C_ref01_Reader_Int p Least1 Most1 h_11 fun (r6 : Int) h_12 =>
                (bif r5 != r6 then
                  R false h_12
                else
                  J1  h_12
                )
              else
                (bif (divV .rem .u8 Kind 3) == 1 then
                  Ld (.int .i64) h_6 (a.add 2) fun (Most3 : Int) =>
                  Ld (.int .i64) h_6 (a.add 2) fun (Most4 : Int) =>
                  C_word_Reader_Text r1 Most3 h_6 fun (r7 : ByteArray) h_13 =>
                  (Ld (.int .i64) h_13 (a.add 2) fun (Most5 : Int) => (.int .i64 Most5 : Value) = .int .i64 Most4) ∧
                  C_ref01_Reader_Text p Most4 h_13 fun (r8 : ByteArray) h_14 =>
                  (bif !(r7.toList == r8.toList) then
                    R false h_14
                  else
                    J1  h_14
                  )
                else
                  (bif (divV .rem .u8 Kind 3) == 2 then
                    C_word_Reader_Bool r1 h_6 fun (r9 : Bool) h_15 =>
                    C_ref01_Reader_Bool p h_15 fun (r10 : Bool) h_16 =>
                    (bif !(r9 == r10) then
                      R false h_16
                    else
                      J1  h_16
                    )
                  else
                    J1  h_6
                  )
                )
              )
              )
            else
              R true h_2
            )
            ) (0, ()) h_1
          ) fun J =>
        ToS Try.prog 23 9 b h_ fun str =>
        (
          C_word_Read b h_ fun (r11 : Option Addr) h_17 =>
          (ToS Try.prog 23 9 b h_17 fun str1 => (.string str1 : Value) = .string str) ∧
          Alloc h_17 (.cells #[.string str, .bool false] 38) fun p5 h_18 =>
          J r11 (some p5) h_18
        ) ∧
        (
          Alloc h_ (.cells #[.string str, .bool false] 38) fun p6 h_19 =>
          C_word_Read b h_19 fun (r12 : Option Addr) h_20 =>
          (ToS Try.prog 23 9 b h_20 fun str2 => (.string str2 : Value) = .string str) ∧
          J r12 (some p6) h_20
        )
      )
    )
  )
theorem E_law01_WordReads (b : Sl) (l : Sl) (h : Heap) (R : Bool → Heap → Prop) :
    VF Try.prog [(30, [(5, .one .ptr), (6, .one .ptr)]), (250, [(27, .one (.int .i64))]), (64101, [])] Try.f4 [.slice b.a b.n b.c, .slice l.a l.n l.c] h [.one .bool] R = S_law01_WordReads b l h R := by kernel_rfl
theorem A_law01_WordReads {b : Sl} {l : Sl} {h : Heap} {R : Bool → Heap → Prop} (hs : S_law01_WordReads b l h R) : C_law01_WordReads b l h R :=
  VF_sound (an := [(30, [(5, .one .ptr), (6, .one .ptr)]), (250, [(27, .one (.int .i64))]), (64101, [])]) (fn := Try.f4) (args := [.slice b.a b.n b.c, .slice l.a l.n l.c]) mixed_ Try.func4 (by kernel_rfl) (cast (E_law01_WordReads b l h R).symm hs)

/-- kissinggatelaw01.WordOrder -/
def S_law01_WordOrder (a : Int) (b : Int) (h : Heap) (R : Bool → Heap → Prop) : Prop :=
  C_law01_fixed  h fun (r : Bool) h_ =>
  (bif !r then
    R false h_
  else
    C_word_Int ⟨none, 0, 0⟩ a h_ fun (r1 : Sl) h_1 =>
    ToS Try.prog 23 9 r1 h_1 fun str =>
    C_word_Int ⟨none, 0, 0⟩ b h_1 fun (r2 : Sl) h_2 =>
    (ToS Try.prog 23 9 r1 h_2 fun str1 => (.string str1 : Value) = .string str) ∧
    ToS Try.prog 23 9 r2 h_2 fun str2 =>
    (bif (str.size : Int) != 8 then
      R false h_2
    else
      (bif !((str.toList == str2.toList) == (a == b)) then
        R false h_2
      else
        (bif decide (a < 0) then
          R true h_2
        else
          (bif decide (b < 0) then
            R true h_2
          else
            R ((Op.bytesLess str.toList str2.toList) == (decide (a < b))) h_2
          )
        )
      )
    )
  )
theorem E_law01_WordOrder (a : Int) (b : Int) (h : Heap) (R : Bool → Heap → Prop) :
    VF Try.prog [] Try.f5 [.int .i64 a, .int .i64 b] h [.one .bool] R = S_law01_WordOrder a b h R := by kernel_rfl
theorem A_law01_WordOrder {a : Int} {b : Int} {h : Heap} {R : Bool → Heap → Prop} (hs : S_law01_WordOrder a b h R) : C_law01_WordOrder a b h R :=
  VF_sound (an := []) (fn := Try.f5) (args := [.int .i64 a, .int .i64 b]) mixed_ Try.func5 (by kernel_rfl) (cast (E_law01_WordOrder a b h R).symm hs)

/-- kissinggatelaw01.fixed -/
def S_law01_fixed  (h : Heap) (R : Bool → Heap → Prop) : Prop :=
  C_word_Int ⟨none, 0, 0⟩ 258 h fun (r : Sl) h_ =>
  C_word_Text r (⟨#[104, 105]⟩ : ByteArray) h_ fun (r1 : Sl) h_1 =>
  C_word_Bool r1 true h_1 fun (r2 : Sl) h_2 =>
  C_word_Read r2 h_2 fun (r3 : Option Addr) h_3 =>
  C_word_Reader_Int r3 0 999 h_3 fun (r4 : Int) h_4 =>
  C_word_Reader_Text r3 9 h_4 fun (r5 : ByteArray) h_5 =>
  C_word_Reader_Bool r3 h_5 fun (r6 : Bool) h_6 =>
  Alloc h_6 (.cells #[.int .u8 2] 5) fun b h_7 =>
  C_word_Read ⟨some b, 1, 1⟩ h_7 fun (r7 : Option Addr) h_8 =>
  C_word_Reader_Bool r7 h_8 fun (r8 : Bool) h_9 =>
  (bif (r2.n : Int) == 13 then
    Ix r2 6 1 fun e =>
    Ld (.int .u8) h_9 e fun (x : Int) =>
    (bif x == 1 then
      Ix r2 7 1 fun e1 =>
      Ld (.int .u8) h_9 e1 fun (x1 : Int) =>
      (bif x1 == 2 then
        (bif r4 == 258 then
          (bif r5.toList == (⟨#[104, 105]⟩ : ByteArray).toList then
            (bif r6 then
              C_word_Reader_Done r3 h_9 fun (r9 : Bool) h_10 =>
              (bif r9 then
                (bif !r8 then
                  C_word_Reader_Fail r7 h_10 fun (r10 : Bool) h_11 =>
                  (bif r10 then
                    C_word_Reader_Done r7 h_11 fun (r11 : Bool) h_12 =>
                    (bif !r11 then
                      C_word_Reader_Fail none h_12 fun (r12 : Bool) h_13 =>
                      (bif r12 then
                        C_word_Reader_Left none h_13 fun (r13 : Int) h_14 =>
                        (bif r13 == 0 then
                          C_word_Reader_Int none 0 9 h_14 fun (r14 : Int) h_15 =>
                          R (r14 == 0) h_15
                        else
                          R false h_14
                        )
                      else
                        R false h_13
                      )
                    else
                      R false h_12
                    )
                  else
                    R false h_11
                  )
                else
                  R false h_10
                )
              else
                R false h_10
              )
            else
              R false h_9
            )
          else
            R false h_9
          )
        else
          R false h_9
        )
      else
        R false h_9
      )
    else
      R false h_9
    )
  else
    R false h_9
  )
theorem E_law01_fixed  (h : Heap) (R : Bool → Heap → Prop) :
    VF Try.prog [] Try.f15 [] h [.one .bool] R = S_law01_fixed  h R := by kernel_rfl
theorem A_law01_fixed  {h : Heap} {R : Bool → Heap → Prop} (hs : S_law01_fixed  h R) : C_law01_fixed  h R :=
  VF_sound (an := []) (fn := Try.f15) (args := []) mixed_ Try.func15 (by kernel_rfl) (cast (E_law01_fixed  h R).symm hs)

/-- word.Bool -/
def S_word_Bool (b : Sl) (yes : Bool) (h : Heap) (R : Sl → Heap → Prop) : Prop :=
  (bif yes then
    Alloc h (.cells #[.int .u8 1] 5) fun b1 h_ =>
    App Try.prog 23 23 b ⟨some b1, 1, 1⟩ h_ fun s h_1 =>
    R s h_1
  else
    Alloc h (.cells #[.int .u8 0] 5) fun b2 h_2 =>
    App Try.prog 23 23 b ⟨some b2, 1, 1⟩ h_2 fun s1 h_3 =>
    R s1 h_3
  )
theorem E_word_Bool (b : Sl) (yes : Bool) (h : Heap) (R : Sl → Heap → Prop) :
    VF Try.prog [] Try.f16 [.slice b.a b.n b.c, .bool yes] h [.one .sl] R = S_word_Bool b yes h R := by kernel_rfl
theorem A_word_Bool {b : Sl} {yes : Bool} {h : Heap} {R : Sl → Heap → Prop} (hs : S_word_Bool b yes h R) : C_word_Bool b yes h R :=
  VF_sound (an := []) (fn := Try.f16) (args := [.slice b.a b.n b.c, .bool yes]) mixed_ Try.func16 (by kernel_rfl) (cast (E_word_Bool b yes h R).symm hs)

/-- word.Text -/
def S_word_Text (b : Sl) (s : ByteArray) (h : Heap) (R : Sl → Heap → Prop) : Prop :=
  Let (if 65535 < (s.size : Int) then 65535 else (s.size : Int) : Int) fun n =>
  Nneg 8 (
  Alloc h (.cells #[.int .u8 (IntKind.u8.wrap (shiftV .shr .i64 n 8)), .int .u8 (IntKind.u8.wrap n)] 5) fun b1 h_ =>
  App Try.prog 23 23 b ⟨some b1, 2, 2⟩ h_ fun s1 h_1 =>
  CutS Try.prog 9 s none (some (.int .i64 n)) fun s2 =>
  OpT Try.prog (Builtin.append_ #[23, 9] 23 #[.slice s1.a s1.n s1.c, .string s2]) h_1 [.one .sl] fun s3 h_2 =>
  R s3 h_2
  )
theorem E_word_Text (b : Sl) (s : ByteArray) (h : Heap) (R : Sl → Heap → Prop) :
    VF Try.prog [] Try.f17 [.slice b.a b.n b.c, .string s] h [.one .sl] R = S_word_Text b s h R := by kernel_rfl
theorem A_word_Text {b : Sl} {s : ByteArray} {h : Heap} {R : Sl → Heap → Prop} (hs : S_word_Text b s h R) : C_word_Text b s h R :=
  VF_sound (an := []) (fn := Try.f17) (args := [.slice b.a b.n b.c, .string s]) mixed_ Try.func17 (by kernel_rfl) (cast (E_word_Text b s h R).symm hs)

/-- word.Int -/
def S_word_Int (b : Sl) (n : Int) (h : Heap) (R : Sl → Heap → Prop) : Prop :=
  Loop [.one .sl, .one (.int .i64)] (fun _ (b1 : Sl) (i : Int) h_ go =>
    (bif decide (i ≥ 0) then
      Nneg (IntKind.u64.wrap (IntKind.i64.wrap (8 * i))) (
      Alloc h_ (.cells #[.int .u8 (IntKind.u8.wrap (shiftV .shr .u64 (IntKind.u64.wrap n) (IntKind.u64.wrap (IntKind.i64.wrap (8 * i)))))] 5) fun b2 h_1 =>
      App Try.prog 23 23 b1 ⟨some b2, 1, 1⟩ h_1 fun s h_2 =>
      Let (IntKind.i64.wrap (i - 1) : Int) fun i1 =>
      go s i1 h_2
      )
    else
      R b1 h_
    )
    ) (b, 7, ()) h
theorem E_word_Int (b : Sl) (n : Int) (h : Heap) (R : Sl → Heap → Prop) :
    VF Try.prog [(26, [(0, .one .sl), (5, .one (.int .i64))])] Try.f18 [.slice b.a b.n b.c, .int .i64 n] h [.one .sl] R = S_word_Int b n h R := by kernel_rfl
theorem A_word_Int {b : Sl} {n : Int} {h : Heap} {R : Sl → Heap → Prop} (hs : S_word_Int b n h R) : C_word_Int b n h R :=
  VF_sound (an := [(26, [(0, .one .sl), (5, .one (.int .i64))])]) (fn := Try.f18) (args := [.slice b.a b.n b.c, .int .i64 n]) mixed_ Try.func18 (by kernel_rfl) (cast (E_word_Int b n h R).symm hs)

/-- kissinggateref01.Int -/
def S_ref01_Int (n : Int) (h : Heap) (R : ByteArray → Heap → Prop) : Prop :=
  Let (IntKind.u64.wrap n : Int) fun u =>
  Loop [.one .str, .one (.int .u64), .one (.int .i64)] (fun _ (out : ByteArray) (u1 : Int) (i : Int) h_ go =>
    (bif decide (i < 8) then
      Nz 256 (
      Alloc h_ (.cells #[.int .u8 (IntKind.u8.wrap (divV .rem .u64 u1 256))] 5) fun b h_1 =>
      ToS Try.prog 23 9 ⟨some b, 1, 1⟩ h_1 fun str =>
      Cat str out fun str1 =>
      Nz 256 (
      Let (divV .quo .u64 u1 256 : Int) fun u2 =>
      Let (IntKind.i64.wrap (i + 1) : Int) fun i1 =>
      go str1 u2 i1 h_1
      )
      )
    else
      R out h_
    )
    ) ((⟨#[]⟩ : ByteArray), u, 0, ()) h
theorem E_ref01_Int (n : Int) (h : Heap) (R : ByteArray → Heap → Prop) :
    VF Try.prog [(122, [(3, .one .str), (4, .one (.int .u64)), (5, .one (.int .i64))])] Try.f19 [.int .i64 n] h [.one .str] R = S_ref01_Int n h R := by kernel_rfl
theorem A_ref01_Int {n : Int} {h : Heap} {R : ByteArray → Heap → Prop} (hs : S_ref01_Int n h R) : C_ref01_Int n h R :=
  VF_sound (an := [(122, [(3, .one .str), (4, .one (.int .u64)), (5, .one (.int .i64))])]) (fn := Try.f19) (args := [.int .i64 n]) mixed_ Try.func19 (by kernel_rfl) (cast (E_ref01_Int n h R).symm hs)

/-- kissinggateref01.Text -/
def S_ref01_Text (s : ByteArray) (h : Heap) (R : ByteArray → Heap → Prop) : Prop :=
  Join [.one .str] (fun _ (s1 : ByteArray) h_ =>
    Nz 256 (
    Nz 256 (
    Alloc h_ (.cells #[.int .u8 (IntKind.u8.wrap (divV .quo .i64 (s1.size : Int) 256)), .int .u8 (IntKind.u8.wrap (divV .rem .i64 (s1.size : Int) 256))] 5) fun b h_1 =>
    ToS Try.prog 23 9 ⟨some b, 2, 2⟩ h_1 fun str =>
    Cat str s1 fun str1 =>
    R str1 h_1
    )
    )
    ) fun J =>
  (bif decide ((s.size : Int) > 65535) then
    CutS Try.prog 9 s none (some (.int .i64 65535)) fun s2 =>
    J s2 h
  else
    J s h
  )
theorem E_ref01_Text (s : ByteArray) (h : Heap) (R : ByteArray → Heap → Prop) :
    VF Try.prog [(13, [(0, .one .str)])] Try.f20 [.string s] h [.one .str] R = S_ref01_Text s h R := by kernel_rfl
theorem A_ref01_Text {s : ByteArray} {h : Heap} {R : ByteArray → Heap → Prop} (hs : S_ref01_Text s h R) : C_ref01_Text s h R :=
  VF_sound (an := [(13, [(0, .one .str)])]) (fn := Try.f20) (args := [.string s]) mixed_ Try.func20 (by kernel_rfl) (cast (E_ref01_Text s h R).symm hs)

/-- kissinggateref01.Bool -/
def S_ref01_Bool (yes : Bool) (h : Heap) (R : ByteArray → Heap → Prop) : Prop :=
  (bif yes then
    Alloc h (.cells #[.int .u8 1] 5) fun b h_ =>
    ToS Try.prog 23 9 ⟨some b, 1, 1⟩ h_ fun str =>
    R str h_
  else
    Alloc h (.cells #[.int .u8 0] 5) fun b1 h_1 =>
    ToS Try.prog 23 9 ⟨some b1, 1, 1⟩ h_1 fun str1 =>
    R str1 h_1
  )
theorem E_ref01_Bool (yes : Bool) (h : Heap) (R : ByteArray → Heap → Prop) :
    VF Try.prog [] Try.f21 [.bool yes] h [.one .str] R = S_ref01_Bool yes h R := by kernel_rfl
theorem A_ref01_Bool {yes : Bool} {h : Heap} {R : ByteArray → Heap → Prop} (hs : S_ref01_Bool yes h R) : C_ref01_Bool yes h R :=
  VF_sound (an := []) (fn := Try.f21) (args := [.bool yes]) mixed_ Try.func21 (by kernel_rfl) (cast (E_ref01_Bool yes h R).symm hs)

/-- word.Read -/
def S_word_Read (b : Sl) (h : Heap) (R : Option Addr → Heap → Prop) : Prop :=
  Alloc h (.cells #[.slice b.a b.n b.c, .bool false] 95) fun p h_ =>
  R (some p) h_
theorem E_word_Read (b : Sl) (h : Heap) (R : Option Addr → Heap → Prop) :
    VF Try.prog [] Try.f22 [.slice b.a b.n b.c] h [.one .ptr] R = S_word_Read b h R := by kernel_rfl
theorem A_word_Read {b : Sl} {h : Heap} {R : Option Addr → Heap → Prop} (hs : S_word_Read b h R) : C_word_Read b h R :=
  VF_sound (an := []) (fn := Try.f22) (args := [.slice b.a b.n b.c]) mixed_ Try.func22 (by kernel_rfl) (cast (E_word_Read b h R).symm hs)

/-- (*word.Reader).Int -/
def S_word_Reader_Int (r : Option Addr) (least : Int) (most : Int) (h : Heap) (R : Int → Heap → Prop) : Prop :=
  C_word_Reader_part r 8 h fun (r1 : Sl) h_ =>
  Loop [.one (.int .u64), .one (.int .i64)] (fun _ (u : Int) (x16 : Int) h_1 go =>
    (bif decide (x16 < (r1.n : Int)) then
      Ix r1 x16 1 fun e =>
      Ld (.int .u8) h_1 e fun (x : Int) =>
      Nneg 8 (
      Let (bitV .or .u64 (shiftV .shl .u64 u 8) (IntKind.u64.wrap x) : Int) fun u1 =>
      go u1 (IntKind.i64.wrap (x16 + 1)) h_1
      )
    else
      Let (IntKind.i64.wrap u : Int) fun n =>
      (bif !r1.a.isNone then
        (bif decide (n ≥ least) then
          (bif decide (n ≤ most) then
            R n h_1
          else
            C_word_Reader_fail r h_1 fun h_2 =>
            R 0 h_2
          )
        else
          C_word_Reader_fail r h_1 fun h_3 =>
          R 0 h_3
        )
      else
        C_word_Reader_fail r h_1 fun h_4 =>
        R 0 h_4
      )
    )
    ) (0, 0, ()) h_
theorem E_word_Reader_Int (r : Option Addr) (least : Int) (most : Int) (h : Heap) (R : Int → Heap → Prop) :
    VF Try.prog [(122, [(7, .one (.int .u64)), (16, .one (.int .i64))])] Try.f23 [.pointer r, .int .i64 least, .int .i64 most] h [.one (.int .i64)] R = S_word_Reader_Int r least most h R := by kernel_rfl
theorem A_word_Reader_Int {r : Option Addr} {least : Int} {most : Int} {h : Heap} {R : Int → Heap → Prop} (hs : S_word_Reader_Int r least most h R) : C_word_Reader_Int r least most h R :=
  VF_sound (an := [(122, [(7, .one (.int .u64)), (16, .one (.int .i64))])]) (fn := Try.f23) (args := [.pointer r, .int .i64 least, .int .i64 most]) mixed_ Try.func23 (by kernel_rfl) (cast (E_word_Reader_Int r least most h R).symm hs)

/-- (*word.Reader).Fail -/
def S_word_Reader_Fail (r : Option Addr) (h : Heap) (R : Bool → Heap → Prop) : Prop :=
  (bif r.isNone then
    R true h
  else
    Nn r fun p =>
    Ld .bool h (p.add 1) fun (bad : Bool) =>
    R bad h
  )
theorem E_word_Reader_Fail (r : Option Addr) (h : Heap) (R : Bool → Heap → Prop) :
    VF Try.prog [] Try.f24 [.pointer r] h [.one .bool] R = S_word_Reader_Fail r h R := by kernel_rfl
theorem A_word_Reader_Fail {r : Option Addr} {h : Heap} {R : Bool → Heap → Prop} (hs : S_word_Reader_Fail r h R) : C_word_Reader_Fail r h R :=
  VF_sound (an := []) (fn := Try.f24) (args := [.pointer r]) mixed_ Try.func24 (by kernel_rfl) (cast (E_word_Reader_Fail r h R).symm hs)

/-- (*word.Reader).Text -/
def S_word_Reader_Text (r : Option Addr) (most : Int) (h : Heap) (R : ByteArray → Heap → Prop) : Prop :=
  C_word_Reader_part r 2 h fun (r1 : Sl) h_ =>
  (bif r1.a.isNone then
    R (⟨#[]⟩ : ByteArray) h_
  else
    Ix r1 0 1 fun e =>
    Ld (.int .u8) h_ e fun (x : Int) =>
    Nneg 8 (
    Ix r1 1 1 fun e1 =>
    Ld (.int .u8) h_ e1 fun (x1 : Int) =>
    Let (bitV .or .i64 (shiftV .shl .i64 (IntKind.i64.wrap x) 8) (IntKind.i64.wrap x1) : Int) fun n =>
    (bif decide (n > most) then
      C_word_Reader_fail r h_ fun h_1 =>
      R (⟨#[]⟩ : ByteArray) h_1
    else
      C_word_Reader_part r n h_ fun (r2 : Sl) h_2 =>
      ToS Try.prog 23 9 r2 h_2 fun str =>
      R str h_2
    )
    )
  )
theorem E_word_Reader_Text (r : Option Addr) (most : Int) (h : Heap) (R : ByteArray → Heap → Prop) :
    VF Try.prog [] Try.f25 [.pointer r, .int .i64 most] h [.one .str] R = S_word_Reader_Text r most h R := by kernel_rfl
theorem A_word_Reader_Text {r : Option Addr} {most : Int} {h : Heap} {R : ByteArray → Heap → Prop} (hs : S_word_Reader_Text r most h R) : C_word_Reader_Text r most h R :=
  VF_sound (an := []) (fn := Try.f25) (args := [.pointer r, .int .i64 most]) mixed_ Try.func25 (by kernel_rfl) (cast (E_word_Reader_Text r most h R).symm hs)

/-- (*word.Reader).Bool -/
def S_word_Reader_Bool (r : Option Addr) (h : Heap) (R : Bool → Heap → Prop) : Prop :=
  C_word_Reader_part r 1 h fun (r1 : Sl) h_ =>
  (bif r1.a.isNone then
    C_word_Reader_fail r h_ fun h_1 =>
    R false h_1
  else
    Ix r1 0 1 fun e =>
    Ld (.int .u8) h_ e fun (x : Int) =>
    (bif decide (x > 1) then
      C_word_Reader_fail r h_ fun h_2 =>
      R false h_2
    else
      Ix r1 0 1 fun e1 =>
      Ld (.int .u8) h_ e1 fun (x1 : Int) =>
      R (x1 == 1) h_
    )
  )
theorem E_word_Reader_Bool (r : Option Addr) (h : Heap) (R : Bool → Heap → Prop) :
    VF Try.prog [] Try.f26 [.pointer r] h [.one .bool] R = S_word_Reader_Bool r h R := by kernel_rfl
theorem A_word_Reader_Bool {r : Option Addr} {h : Heap} {R : Bool → Heap → Prop} (hs : S_word_Reader_Bool r h R) : C_word_Reader_Bool r h R :=
  VF_sound (an := []) (fn := Try.f26) (args := [.pointer r]) mixed_ Try.func26 (by kernel_rfl) (cast (E_word_Reader_Bool r h R).symm hs)

/-- (*word.Reader).Left -/
def S_word_Reader_Left (r : Option Addr) (h : Heap) (R : Int → Heap → Prop) : Prop :=
  (bif r.isNone then
    R 0 h
  else
    Nn r fun p =>
    Ld .sl h p fun (b : Sl) =>
    R (b.n : Int) h
  )
theorem E_word_Reader_Left (r : Option Addr) (h : Heap) (R : Int → Heap → Prop) :
    VF Try.prog [] Try.f27 [.pointer r] h [.one (.int .i64)] R = S_word_Reader_Left r h R := by kernel_rfl
theorem A_word_Reader_Left {r : Option Addr} {h : Heap} {R : Int → Heap → Prop} (hs : S_word_Reader_Left r h R) : C_word_Reader_Left r h R :=
  VF_sound (an := []) (fn := Try.f27) (args := [.pointer r]) mixed_ Try.func27 (by kernel_rfl) (cast (E_word_Reader_Left r h R).symm hs)

/-- (*word.Reader).Done -/
def S_word_Reader_Done (r : Option Addr) (h : Heap) (R : Bool → Heap → Prop) : Prop :=
  C_word_Reader_Fail r h fun (r1 : Bool) h_ =>
  (bif !r1 then
    Nn r fun p =>
    Ld .sl h_ p fun (b : Sl) =>
    R ((b.n : Int) == 0) h_
  else
    R false h_
  )
theorem E_word_Reader_Done (r : Option Addr) (h : Heap) (R : Bool → Heap → Prop) :
    VF Try.prog [] Try.f28 [.pointer r] h [.one .bool] R = S_word_Reader_Done r h R := by kernel_rfl
theorem A_word_Reader_Done {r : Option Addr} {h : Heap} {R : Bool → Heap → Prop} (hs : S_word_Reader_Done r h R) : C_word_Reader_Done r h R :=
  VF_sound (an := []) (fn := Try.f28) (args := [.pointer r]) mixed_ Try.func28 (by kernel_rfl) (cast (E_word_Reader_Done r h R).symm hs)

/-- (*kissinggateref01.Reader).Int -/
def S_ref01_Reader_Int (r : Option Addr) (least : Int) (most : Int) (h : Heap) (R : Int → Heap → Prop) : Prop :=
  C_ref01_Reader_part r 8 h fun (r1 : ByteArray) h_ =>
  Nn r fun p =>
  Ld .bool h_ (p.add 1) fun (Bad : Bool) =>
  (bif Bad then
    R 0 h_
  else
    Loop [.one (.int .u64), .one (.int .i64)] (fun _ (u : Int) (i : Int) h_1 go =>
      (bif decide (i < 8) then
        IxS r1 i fun c =>
        Let (IntKind.u64.wrap ((IntKind.u64.wrap (u * 256)) + (IntKind.u64.wrap c)) : Int) fun u1 =>
        Let (IntKind.i64.wrap (i + 1) : Int) fun i1 =>
        go u1 i1 h_1
      else
        (bif decide ((IntKind.i64.wrap u) < least) then
          Nn r fun p1 =>
          St h_1 (p1.add 1) (.bool true) fun h_2 =>
          Nn r fun p2 =>
          St h_2 p2 (.string (⟨#[]⟩ : ByteArray)) fun h_3 =>
          R 0 h_3
        else
          (bif decide ((IntKind.i64.wrap u) > most) then
            Nn r fun p3 =>
            St h_1 (p3.add 1) (.bool true) fun h_4 =>
            Nn r fun p4 =>
            St h_4 p4 (.string (⟨#[]⟩ : ByteArray)) fun h_5 =>
            R 0 h_5
          else
            R (IntKind.i64.wrap u) h_1
          )
        )
      )
      ) (0, 0, ()) h_
  )
theorem E_ref01_Reader_Int (r : Option Addr) (least : Int) (most : Int) (h : Heap) (R : Int → Heap → Prop) :
    VF Try.prog [(250, [(8, .one (.int .u64)), (9, .one (.int .i64))])] Try.f29 [.pointer r, .int .i64 least, .int .i64 most] h [.one (.int .i64)] R = S_ref01_Reader_Int r least most h R := by kernel_rfl
theorem A_ref01_Reader_Int {r : Option Addr} {least : Int} {most : Int} {h : Heap} {R : Int → Heap → Prop} (hs : S_ref01_Reader_Int r least most h R) : C_ref01_Reader_Int r least most h R :=
  VF_sound (an := [(250, [(8, .one (.int .u64)), (9, .one (.int .i64))])]) (fn := Try.f29) (args := [.pointer r, .int .i64 least, .int .i64 most]) mixed_ Try.func29 (by kernel_rfl) (cast (E_ref01_Reader_Int r least most h R).symm hs)

/-- (*kissinggateref01.Reader).Text -/
def S_ref01_Reader_Text (r : Option Addr) (most : Int) (h : Heap) (R : ByteArray → Heap → Prop) : Prop :=
  C_ref01_Reader_part r 2 h fun (r1 : ByteArray) h_ =>
  Nn r fun p =>
  Ld .bool h_ (p.add 1) fun (Bad : Bool) =>
  (bif Bad then
    R (⟨#[]⟩ : ByteArray) h_
  else
    IxS r1 0 fun c =>
    IxS r1 1 fun c1 =>
    Let (IntKind.i64.wrap ((IntKind.i64.wrap ((IntKind.i64.wrap c) * 256)) + (IntKind.i64.wrap c1)) : Int) fun n =>
    (bif decide (n > most) then
      Nn r fun p1 =>
      St h_ (p1.add 1) (.bool true) fun h_1 =>
      Nn r fun p2 =>
      St h_1 p2 (.string (⟨#[]⟩ : ByteArray)) fun h_2 =>
      R (⟨#[]⟩ : ByteArray) h_2
    else
      C_ref01_Reader_part r n h_ fun (r2 : ByteArray) h_3 =>
      R r2 h_3
    )
  )
theorem E_ref01_Reader_Text (r : Option Addr) (most : Int) (h : Heap) (R : ByteArray → Heap → Prop) :
    VF Try.prog [] Try.f30 [.pointer r, .int .i64 most] h [.one .str] R = S_ref01_Reader_Text r most h R := by kernel_rfl
theorem A_ref01_Reader_Text {r : Option Addr} {most : Int} {h : Heap} {R : ByteArray → Heap → Prop} (hs : S_ref01_Reader_Text r most h R) : C_ref01_Reader_Text r most h R :=
  VF_sound (an := []) (fn := Try.f30) (args := [.pointer r, .int .i64 most]) mixed_ Try.func30 (by kernel_rfl) (cast (E_ref01_Reader_Text r most h R).symm hs)

/-- (*kissinggateref01.Reader).Bool -/
def S_ref01_Reader_Bool (r : Option Addr) (h : Heap) (R : Bool → Heap → Prop) : Prop :=
  C_ref01_Reader_part r 1 h fun (r1 : ByteArray) h_ =>
  Nn r fun p =>
  Ld .bool h_ (p.add 1) fun (Bad : Bool) =>
  (bif Bad then
    R false h_
  else
    IxS r1 0 fun c =>
    (bif decide (c > 1) then
      Nn r fun p1 =>
      St h_ (p1.add 1) (.bool true) fun h_1 =>
      Nn r fun p2 =>
      St h_1 p2 (.string (⟨#[]⟩ : ByteArray)) fun h_2 =>
      R false h_2
    else
      IxS r1 0 fun c1 =>
      R (c1 == 1) h_
    )
  )
theorem E_ref01_Reader_Bool (r : Option Addr) (h : Heap) (R : Bool → Heap → Prop) :
    VF Try.prog [] Try.f31 [.pointer r] h [.one .bool] R = S_ref01_Reader_Bool r h R := by kernel_rfl
theorem A_ref01_Reader_Bool {r : Option Addr} {h : Heap} {R : Bool → Heap → Prop} (hs : S_ref01_Reader_Bool r h R) : C_ref01_Reader_Bool r h R :=
  VF_sound (an := []) (fn := Try.f31) (args := [.pointer r]) mixed_ Try.func31 (by kernel_rfl) (cast (E_ref01_Reader_Bool r h R).symm hs)

/-- (*word.Reader).part -/
def S_word_Reader_part (r : Option Addr) (n : Int) (h : Heap) (R : Sl → Heap → Prop) : Prop :=
  C_word_Reader_Fail r h fun (r1 : Bool) h_ =>
  (bif r1 then
    C_word_Reader_fail r h_ fun h_1 =>
    R ⟨none, 0, 0⟩ h_1
  else
    Nn r fun p =>
    Ld .sl h_ p fun (b : Sl) =>
    (bif decide ((b.n : Int) < n) then
      C_word_Reader_fail r h_ fun h_2 =>
      R ⟨none, 0, 0⟩ h_2
    else
      Nn r fun p1 =>
      Ld .sl h_ p1 fun (b1 : Sl) =>
      Cut Try.prog 23 b1 none (some (.int .i64 n)) none fun s =>
      Nn r fun p2 =>
      Ld .sl h_ p2 fun (b2 : Sl) =>
      Cut Try.prog 23 b2 (some (.int .i64 n)) none none fun s1 =>
      Nn r fun p3 =>
      St h_ p3 (.slice s1.a s1.n s1.c) fun h_3 =>
      R s h_3
    )
  )
theorem E_word_Reader_part (r : Option Addr) (n : Int) (h : Heap) (R : Sl → Heap → Prop) :
    VF Try.prog [] Try.f66 [.pointer r, .int .i64 n] h [.one .sl] R = S_word_Reader_part r n h R := by kernel_rfl
theorem A_word_Reader_part {r : Option Addr} {n : Int} {h : Heap} {R : Sl → Heap → Prop} (hs : S_word_Reader_part r n h R) : C_word_Reader_part r n h R :=
  VF_sound (an := []) (fn := Try.f66) (args := [.pointer r, .int .i64 n]) mixed_ Try.func66 (by kernel_rfl) (cast (E_word_Reader_part r n h R).symm hs)

/-- (*word.Reader).fail -/
def S_word_Reader_fail (r : Option Addr) (h : Heap) (R : Heap → Prop) : Prop :=
  (bif !r.isNone then
    Nn r fun p =>
    St h (p.add 1) (.bool true) fun h_ =>
    Nn r fun p1 =>
    St h_ p1 (.slice none 0 0) fun h_1 =>
    R h_1
  else
    R h
  )
theorem E_word_Reader_fail (r : Option Addr) (h : Heap) (R : Heap → Prop) :
    VF Try.prog [] Try.f67 [.pointer r] h [] R = S_word_Reader_fail r h R := by kernel_rfl
theorem A_word_Reader_fail {r : Option Addr} {h : Heap} {R : Heap → Prop} (hs : S_word_Reader_fail r h R) : C_word_Reader_fail r h R :=
  VF_sound (an := []) (fn := Try.f67) (args := [.pointer r]) mixed_ Try.func67 (by kernel_rfl) (cast (E_word_Reader_fail r h R).symm hs)

/-- (*kissinggateref01.Reader).part -/
def S_ref01_Reader_part (r : Option Addr) (n : Int) (h : Heap) (R : ByteArray → Heap → Prop) : Prop :=
  Nn r fun p =>
  Ld .bool h (p.add 1) fun (Bad : Bool) =>
  (bif Bad then
    Nn r fun p1 =>
    St h (p1.add 1) (.bool true) fun h_ =>
    Nn r fun p2 =>
    St h_ p2 (.string (⟨#[]⟩ : ByteArray)) fun h_1 =>
    R (⟨#[]⟩ : ByteArray) h_1
  else
    Nn r fun p3 =>
    Ld .str h p3 fun (S : ByteArray) =>
    (bif decide (n > (S.size : Int)) then
      Nn r fun p4 =>
      St h (p4.add 1) (.bool true) fun h_2 =>
      Nn r fun p5 =>
      St h_2 p5 (.string (⟨#[]⟩ : ByteArray)) fun h_3 =>
      R (⟨#[]⟩ : ByteArray) h_3
    else
      Nn r fun p6 =>
      Ld .str h p6 fun (S1 : ByteArray) =>
      CutS Try.prog 9 S1 none (some (.int .i64 n)) fun s =>
      Nn r fun p7 =>
      Ld .str h p7 fun (S2 : ByteArray) =>
      CutS Try.prog 9 S2 (some (.int .i64 n)) none fun s1 =>
      Nn r fun p8 =>
      St h p8 (.string s1) fun h_4 =>
      R s h_4
    )
  )
theorem E_ref01_Reader_part (r : Option Addr) (n : Int) (h : Heap) (R : ByteArray → Heap → Prop) :
    VF Try.prog [] Try.f68 [.pointer r, .int .i64 n] h [.one .str] R = S_ref01_Reader_part r n h R := by kernel_rfl
theorem A_ref01_Reader_part {r : Option Addr} {n : Int} {h : Heap} {R : ByteArray → Heap → Prop} (hs : S_ref01_Reader_part r n h R) : C_ref01_Reader_part r n h R :=
  VF_sound (an := []) (fn := Try.f68) (args := [.pointer r, .int .i64 n]) mixed_ Try.func68 (by kernel_rfl) (cast (E_ref01_Reader_part r n h R).symm hs)

end Go.Proofs.Ytfafikomhbedbaa
