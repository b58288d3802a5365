/- Printed by a program: what each function asks of the heap, that this is the reading of its code, and what follows for a call. -/
import Derived.Test.YtfafikomhbedbaaSC
import Derived.Test.YtfafikomhbedbaaProg
set_option maxRecDepth 1000000
namespace Go.Proofs.Ytfafikomhbedbaa
open Go

/-- kissinggatelaw07.LogFull -/
def S_law07_LogFull (less : Int) (more : Int) (h : Heap) (R : Bool → Heap → Prop) : Prop :=
  C_law07_fixed  h fun (r : Bool) h_ =>
  (bif !r then
    R false h_
  else
    C_log_New ⟨none, 0, 0⟩ h_ fun (r1 : Option Addr) h_1 =>
    Let (IntKind.i64.wrap (1024 - (IntKind.i64.wrap less)) : Int) fun n =>
    Loop [.one (.int .i64)] (fun _ (x23 : Int) h_2 go =>
      (bif decide (x23 < n) then
        C_log_Log_Add r1 (1, (⟨#[]⟩ : ByteArray), ()) h_2 fun (r2 : Int) h_3 =>
        (bif r2 != 0 then
          R false h_3
        else
          go (IntKind.i64.wrap (x23 + 1)) h_3
        )
      else
        Mk Try.prog 75 0 0 h_2 fun s h_4 =>
        C_log_Log_Put r1 n 1 s h_4 fun (r3 : Int) (r4 : Int) h_5 =>
        Alloc h_5 (.cells #[] 73) fun b h_6 =>
        Loop [.one .sl, .one (.int .i64)] (fun _ (row : Sl) (x40 : Int) h_7 go1 =>
          (bif decide (x40 < (IntKind.i64.wrap more)) then
            Alloc h_7 (.cells #[.int .i64 2, .string (⟨#[]⟩ : ByteArray)] 73) fun b1 h_8 =>
            App Try.prog 75 75 row ⟨some b1, 1, 1⟩ h_8 fun s1 h_9 =>
            go1 s1 (IntKind.i64.wrap (x40 + 1)) h_9
          else
            C_log_Log_Put r1 n 1 row h_7 fun (r5 : Int) (r6 : Int) h_10 =>
            (bif r3 != 0 then
              R false h_10
            else
              (bif r4 != 0 then
                R false h_10
              else
                (bif decide ((IntKind.i64.wrap more) > (IntKind.i64.wrap less)) then
                  C_log_Log_Last r1 h_10 fun (r7 : Int) (r8 : Int) h_11 =>
                  Join [.one .bool] (fun _ (x4 : Bool) h_12 =>
                    R x4 h_12
                    ) fun J =>
                  (bif r6 == 7 then
                    (bif r5 == 0 then
                      J (r7 == n) h_11
                    else
                      J false h_11
                    )
                  else
                    J false h_11
                  )
                else
                  C_log_Log_Last r1 h_10 fun (r9 : Int) (r10 : Int) h_13 =>
                  (bif r6 == 0 then
                    (bif r9 == (IntKind.i64.wrap (n + (IntKind.i64.wrap more))) then
                      (bif decide (r9 < 1024) then
                        R true h_13
                      else
                        C_log_Log_Add r1 (9, (⟨#[]⟩ : ByteArray), ()) h_13 fun (r11 : Int) h_14 =>
                        R (r11 == 7) h_14
                      )
                    else
                      R false h_13
                    )
                  else
                    R false h_13
                  )
                )
              )
            )
          )
          ) (⟨some b, 0, 0⟩, 0, ()) h_6
      )
      ) (0, ()) h_1
  )
theorem E_law07_LogFull (less : Int) (more : Int) (h : Heap) (R : Bool → Heap → Prop) :
    VF Try.prog [(250, [(23, .one (.int .i64))]), (2042, [(9, .one .sl), (40, .one (.int .i64))]), (65514, [(4, .one .bool)])] Try.f10 [.int .u8 less, .int .u8 more] h [.one .bool] R = S_law07_LogFull less more h R := by kernel_rfl
theorem A_law07_LogFull {less : Int} {more : Int} {h : Heap} {R : Bool → Heap → Prop} (hs : S_law07_LogFull less more h R) : C_law07_LogFull less more h R :=
  VF_sound (an := [(250, [(23, .one (.int .i64))]), (2042, [(9, .one .sl), (40, .one (.int .i64))]), (65514, [(4, .one .bool)])]) (fn := Try.f10) (args := [.int .u8 less, .int .u8 more]) mixed_ Try.func10 (by kernel_rfl) (cast (E_law07_LogFull less more h R).symm hs)

/-- kissinggatelaw07.LogTwice -/
def S_law07_LogTwice (l : Sl) (cut : Int) (h : Heap) (R : Bool → Heap → Prop) : Prop :=
  C_law07_fixed  h fun (r : Bool) h_ =>
  (bif !r then
    R false h_
  else
    (bif decide ((l.n : Int) > 60) then
      R true h_
    else
      C_log_New ⟨none, 0, 0⟩ h_ fun (r1 : Option Addr) h_1 =>
      C_log_Log_Put r1 0 0 l h_1 fun (r2 : Int) (r3 : Int) h_2 =>
      (bif r3 != 0 then
        C_log_Log_All r1 h_2 fun (r4 : Sl) h_3 =>
        R ((r4.n : Int) == 0) h_3
      else
        C_log_Log_Put r1 0 0 l h_2 fun (r5 : Int) (r6 : Int) h_4 =>
        Nz (IntKind.i64.wrap ((l.n : Int) + 1)) (
        Let (divV .rem .i64 (IntKind.i64.wrap cut) (IntKind.i64.wrap ((l.n : Int) + 1)) : Int) fun k =>
        Cut Try.prog 75 l none (some (.int .i64 k)) none fun s =>
        C_log_Log_Put r1 0 0 s h_4 fun (r7 : Int) (r8 : Int) h_5 =>
        C_log_Log_Last r1 h_5 fun (r9 : Int) (r10 : Int) h_6 =>
        (bif r2 == (if 1 < (l.n : Int) then 1 else (l.n : Int)) then
          (bif r5 == 0 then
            (bif r7 == 0 then
              (bif r6 == 0 then
                (bif r8 == 0 then
                  R (r9 == (l.n : Int)) h_6
                else
                  R false h_6
                )
              else
                R false h_6
              )
            else
              R false h_6
            )
          else
            R false h_6
          )
        else
          R false h_6
        )
        )
      )
    )
  )
theorem E_law07_LogTwice (l : Sl) (cut : Int) (h : Heap) (R : Bool → Heap → Prop) :
    VF Try.prog [] Try.f11 [.slice l.a l.n l.c, .int .u8 cut] h [.one .bool] R = S_law07_LogTwice l cut h R := by kernel_rfl
theorem A_law07_LogTwice {l : Sl} {cut : Int} {h : Heap} {R : Bool → Heap → Prop} (hs : S_law07_LogTwice l cut h R) : C_law07_LogTwice l cut h R :=
  VF_sound (an := []) (fn := Try.f11) (args := [.slice l.a l.n l.c, .int .u8 cut]) mixed_ Try.func11 (by kernel_rfl) (cast (E_law07_LogTwice l cut h R).symm hs)

/-- kissinggatelaw07.fixed -/
def S_law07_fixed  (h : Heap) (R : Bool → Heap → Prop) : Prop :=
  Alloc h (.cells #[.int .i64 1, .string (⟨#[]⟩ : ByteArray), .int .i64 1, .string (⟨#[]⟩ : ByteArray)] 73) fun b h_ =>
  C_log_New ⟨some b, 2, 2⟩ h_ fun (r : Option Addr) h_1 =>
  Alloc h_1 (.cells #[.int .i64 2, .string (⟨#[120]⟩ : ByteArray)] 73) fun b1 h_2 =>
  C_log_Log_Put r 1 1 ⟨some b1, 1, 1⟩ h_2 fun (r1 : Int) (r2 : Int) h_3 =>
  C_log_Log_Last r h_3 fun (r3 : Int) (r4 : Int) h_4 =>
  C_log_Log_Put r 9 1 ⟨none, 0, 0⟩ h_4 fun (r5 : Int) (r6 : Int) h_5 =>
  C_log_Log_Put r 2 1 ⟨none, 0, 0⟩ h_5 fun (r7 : Int) (r8 : Int) h_6 =>
  C_log_Log_Put none 0 0 ⟨none, 0, 0⟩ h_6 fun (r9 : Int) (r10 : Int) h_7 =>
  (bif r1 == 2 then
    (bif r2 == 0 then
      (bif r3 == 2 then
        (bif r4 == 2 then
          (bif r6 == 6 then
            (bif r8 == 8 then
              C_log_Log_Add r (1, (⟨#[]⟩ : ByteArray), ()) h_7 fun (r11 : Int) h_8 =>
              (bif r11 == 5 then
                C_log_Log_Younger r 2 2 h_8 fun (r12 : Bool) h_9 =>
                (bif r12 then
                  C_log_Log_Younger r 9 1 h_9 fun (r13 : Bool) h_10 =>
                  (bif !r13 then
                    C_log_Log_From r 2 5 h_10 fun (r14 : Sl) h_11 =>
                    (bif (r14.n : Int) == 1 then
                      (bif r10 == 1 then
                        C_log_Log_Add none (0, (⟨#[]⟩ : ByteArray), ()) h_11 fun (r15 : Int) h_12 =>
                        (bif r15 == 1 then
                          C_log_Log_Younger none 9 9 h_12 fun (r16 : Bool) h_13 =>
                          (bif !r16 then
                            C_log_Log_All none h_13 fun (r17 : Sl) h_14 =>
                            R ((r17.n : Int) == 0) h_14
                          else
                            R false h_13
                          )
                        else
                          R false h_12
                        )
                      else
                        R false h_11
                      )
                    else
                      R false h_11
                    )
                  else
                    R false h_10
                  )
                else
                  R false h_9
                )
              else
                R false h_8
              )
            else
              R false h_7
            )
          else
            R false h_7
          )
        else
          R false h_7
        )
      else
        R false h_7
      )
    else
      R false h_7
    )
  else
    R false h_7
  )
theorem E_law07_fixed  (h : Heap) (R : Bool → Heap → Prop) :
    VF Try.prog [] Try.f50 [] h [.one .bool] R = S_law07_fixed  h R := by kernel_rfl
theorem A_law07_fixed  {h : Heap} {R : Bool → Heap → Prop} (hs : S_law07_fixed  h R) : C_law07_fixed  h R :=
  VF_sound (an := []) (fn := Try.f50) (args := []) mixed_ Try.func50 (by kernel_rfl) (cast (E_law07_fixed  h R).symm hs)

/-- log.New -/
def S_log_New (l : Sl) (h : Heap) (R : Option Addr → Heap → Prop) : Prop :=
  C_slices_Clone_api_Entry_api_Entry l h fun (r : Sl) h_ =>
  Alloc h_ (.cells #[.slice r.a r.n r.c] 114) fun p h_1 =>
  R (some p) h_1
theorem E_log_New (l : Sl) (h : Heap) (R : Option Addr → Heap → Prop) :
    VF Try.prog [] Try.f51 [.slice l.a l.n l.c] h [.one .ptr] R = S_log_New l h R := by kernel_rfl
theorem A_log_New {l : Sl} {h : Heap} {R : Option Addr → Heap → Prop} (hs : S_log_New l h R) : C_log_New l h R :=
  VF_sound (an := []) (fn := Try.f51) (args := [.slice l.a l.n l.c]) mixed_ Try.func51 (by kernel_rfl) (cast (E_log_New l h R).symm hs)

/-- (*log.Log).Add -/
def S_log_Log_Add (l : Option Addr) (e : KL [.int .i64, .str]) (h : Heap) (R : Int → Heap → Prop) : Prop :=
  Alloc h (.cells #[.int .i64 e.1, .string e.2.1] 73) fun e1 h_ =>
  C_log_Log_Last l h_ fun (r : Int) (r1 : Int) h_1 =>
  (bif l.isNone then
    R 1 h_1
  else
    Ld (.int .i64) h_1 e1 fun (Term : Int) =>
    (bif decide (Term < r1) then
      R 5 h_1
    else
      (bif decide (r ≥ 1024) then
        R 7 h_1
      else
        Nn l fun p =>
        Ld .sl h_1 p fun (l1 : Sl) =>
        Ld (.int .i64) h_1 e1 fun (x_Term : Int) =>
        Ld .str h_1 (e1.add 1) fun (x_Data : ByteArray) =>
        Alloc h_1 (.cells #[.int .i64 x_Term, .string x_Data] 73) fun b h_2 =>
        (Ld .sl h_2 p fun (l2 : Sl) => (.slice l2.a l2.n l2.c : Value) = .slice l1.a l1.n l1.c) ∧
        App Try.prog 75 75 l1 ⟨some b, 1, 1⟩ h_2 fun s h_3 =>
        Nn l fun p1 =>
        St h_3 p1 (.slice s.a s.n s.c) fun h_4 =>
        R 0 h_4
      )
    )
  )
theorem E_log_Log_Add (l : Option Addr) (e : KL [.int .i64, .str]) (h : Heap) (R : Int → Heap → Prop) :
    VF Try.prog [] Try.f52 [.pointer l, .agg ⟨KL.vals [.int .i64, .str] e⟩] h [.one (.int .i64)] R = S_log_Log_Add l e h R := by kernel_rfl
theorem A_log_Log_Add {l : Option Addr} {e : KL [.int .i64, .str]} {h : Heap} {R : Int → Heap → Prop} (hs : S_log_Log_Add l e h R) : C_log_Log_Add l e h R :=
  VF_sound (an := []) (fn := Try.f52) (args := [.pointer l, .agg ⟨KL.vals [.int .i64, .str] e⟩]) mixed_ Try.func52 (by kernel_rfl) (cast (E_log_Log_Add l e h R).symm hs)

/-- (*log.Log).Put -/
def S_log_Log_Put (l : Option Addr) (index : Int) (term : Int) (entries : Sl) (h : Heap) (R : Int → Int → Heap → Prop) : Prop :=
  (bif l.isNone then
    R 0 1 h
  else
    C_log_Log_Term l index h fun (r : Int) (r1 : Bool) h_ =>
    (bif !r1 then
      R 0 6 h_
    else
      (bif r != term then
        R 0 8 h_
      else
        C_log_falls term entries h_ fun (r2 : Bool) h_1 =>
        (bif r2 then
          R 0 5 h_1
        else
          C_log_Log_known l index entries h_1 fun (r3 : Int) h_2 =>
          (bif r3 == (entries.n : Int) then
            R 0 0 h_2
          else
            (bif decide ((IntKind.i64.wrap (index + (entries.n : Int))) > 1024) then
              R 0 7 h_2
            else
              Nn l fun p =>
              Ld .sl h_2 p fun (l1 : Sl) =>
              Cut Try.prog 75 l1 none (some (.int .i64 (IntKind.i64.wrap (index + r3)))) (some (.int .i64 (IntKind.i64.wrap (index + r3)))) fun s =>
              Cut Try.prog 75 entries (some (.int .i64 r3)) none none fun s1 =>
              App Try.prog 75 75 s s1 h_2 fun s2 h_3 =>
              Nn l fun p1 =>
              St h_3 p1 (.slice s2.a s2.n s2.c) fun h_4 =>
              R (IntKind.i64.wrap ((IntKind.i64.wrap (index + r3)) + 1)) 0 h_4
            )
          )
        )
      )
    )
  )
theorem E_log_Log_Put (l : Option Addr) (index : Int) (term : Int) (entries : Sl) (h : Heap) (R : Int → Int → Heap → Prop) :
    VF Try.prog [] Try.f53 [.pointer l, .int .i64 index, .int .i64 term, .slice entries.a entries.n entries.c] h [.one (.int .i64), .one (.int .i64)] R = S_log_Log_Put l index term entries h R := by kernel_rfl
theorem A_log_Log_Put {l : Option Addr} {index : Int} {term : Int} {entries : Sl} {h : Heap} {R : Int → Int → Heap → Prop} (hs : S_log_Log_Put l index term entries h R) : C_log_Log_Put l index term entries h R :=
  VF_sound (an := []) (fn := Try.f53) (args := [.pointer l, .int .i64 index, .int .i64 term, .slice entries.a entries.n entries.c]) mixed_ Try.func53 (by kernel_rfl) (cast (E_log_Log_Put l index term entries h R).symm hs)

/-- (*log.Log).Last -/
def S_log_Log_Last (l : Option Addr) (h : Heap) (R : Int → Int → Heap → Prop) : Prop :=
  (bif l.isNone then
    R 0 0 h
  else
    Nn l fun p =>
    Ld .sl h p fun (l1 : Sl) =>
    (bif (l1.n : Int) == 0 then
      R 0 0 h
    else
      Nn l fun p1 =>
      Ld .sl h p1 fun (l2 : Sl) =>
      Let ((l2.n : Int) : Int) fun n =>
      Nn l fun p2 =>
      Ld .sl h p2 fun (l3 : Sl) =>
      Ix l3 (IntKind.i64.wrap (n - 1)) 2 fun e =>
      Ld (.int .i64) h e fun (Term : Int) =>
      R n Term h
    )
  )
theorem E_log_Log_Last (l : Option Addr) (h : Heap) (R : Int → Int → Heap → Prop) :
    VF Try.prog [] Try.f54 [.pointer l] h [.one (.int .i64), .one (.int .i64)] R = S_log_Log_Last l h R := by kernel_rfl
theorem A_log_Log_Last {l : Option Addr} {h : Heap} {R : Int → Int → Heap → Prop} (hs : S_log_Log_Last l h R) : C_log_Log_Last l h R :=
  VF_sound (an := []) (fn := Try.f54) (args := [.pointer l]) mixed_ Try.func54 (by kernel_rfl) (cast (E_log_Log_Last l h R).symm hs)

/-- (*log.Log).All -/
def S_log_Log_All (l : Option Addr) (h : Heap) (R : Sl → Heap → Prop) : Prop :=
  (bif l.isNone then
    R ⟨none, 0, 0⟩ h
  else
    Nn l fun p =>
    Ld .sl h p fun (l1 : Sl) =>
    C_slices_Clone_api_Entry_api_Entry l1 h fun (r : Sl) h_ =>
    R r h_
  )
theorem E_log_Log_All (l : Option Addr) (h : Heap) (R : Sl → Heap → Prop) :
    VF Try.prog [] Try.f55 [.pointer l] h [.one .sl] R = S_log_Log_All l h R := by kernel_rfl
theorem A_log_Log_All {l : Option Addr} {h : Heap} {R : Sl → Heap → Prop} (hs : S_log_Log_All l h R) : C_log_Log_All l h R :=
  VF_sound (an := []) (fn := Try.f55) (args := [.pointer l]) mixed_ Try.func55 (by kernel_rfl) (cast (E_log_Log_All l h R).symm hs)

/-- (*log.Log).Younger -/
def S_log_Log_Younger (l : Option Addr) (index : Int) (term : Int) (h : Heap) (R : Bool → Heap → Prop) : Prop :=
  C_log_Log_Last l h fun (r : Int) (r1 : Int) h_ =>
  (bif !l.isNone then
    (bif decide (term > r1) then
      R true h_
    else
      (bif term == r1 then
        R (decide (index ≥ r)) h_
      else
        R false h_
      )
    )
  else
    R false h_
  )
theorem E_log_Log_Younger (l : Option Addr) (index : Int) (term : Int) (h : Heap) (R : Bool → Heap → Prop) :
    VF Try.prog [] Try.f78 [.pointer l, .int .i64 index, .int .i64 term] h [.one .bool] R = S_log_Log_Younger l index term h R := by kernel_rfl
theorem A_log_Log_Younger {l : Option Addr} {index : Int} {term : Int} {h : Heap} {R : Bool → Heap → Prop} (hs : S_log_Log_Younger l index term h R) : C_log_Log_Younger l index term h R :=
  VF_sound (an := []) (fn := Try.f78) (args := [.pointer l, .int .i64 index, .int .i64 term]) mixed_ Try.func78 (by kernel_rfl) (cast (E_log_Log_Younger l index term h R).symm hs)

/-- (*log.Log).From -/
def S_log_Log_From (l : Option Addr) (index : Int) (most : Int) (h : Heap) (R : Sl → Heap → Prop) : Prop :=
  C_log_Log_Last l h fun (r : Int) (r1 : Int) h_ =>
  Let (if 1 > index then 1 else index : Int) fun index1 =>
  (bif decide (index1 > r) then
    R ⟨none, 0, 0⟩ h_
  else
    (bif decide (most < 1) then
      R ⟨none, 0, 0⟩ h_
    else
      Nn l fun p =>
      Ld .sl h_ p fun (l1 : Sl) =>
      Cut Try.prog 75 l1 (some (.int .i64 (IntKind.i64.wrap (index1 - 1)))) (some (.int .i64 (IntKind.i64.wrap ((IntKind.i64.wrap (index1 - 1)) + (if (IntKind.i64.wrap ((IntKind.i64.wrap (r - index1)) + 1)) < most then IntKind.i64.wrap ((IntKind.i64.wrap (r - index1)) + 1) else most))))) none fun s =>
      C_slices_Clone_api_Entry_api_Entry s h_ fun (r2 : Sl) h_1 =>
      R r2 h_1
    )
  )
theorem E_log_Log_From (l : Option Addr) (index : Int) (most : Int) (h : Heap) (R : Sl → Heap → Prop) :
    VF Try.prog [] Try.f79 [.pointer l, .int .i64 index, .int .i64 most] h [.one .sl] R = S_log_Log_From l index most h R := by kernel_rfl
theorem A_log_Log_From {l : Option Addr} {index : Int} {most : Int} {h : Heap} {R : Sl → Heap → Prop} (hs : S_log_Log_From l index most h R) : C_log_Log_From l index most h R :=
  VF_sound (an := []) (fn := Try.f79) (args := [.pointer l, .int .i64 index, .int .i64 most]) mixed_ Try.func79 (by kernel_rfl) (cast (E_log_Log_From l index most h R).symm hs)

/-- slices.Clone[[]api.Entry,api.Entry] -/
def S_slices_Clone_api_Entry_api_Entry (s : Sl) (h : Heap) (R : Sl → Heap → Prop) : Prop :=
  (bif s.a.isNone then
    R ⟨none, 0, 0⟩ h
  else
    Alloc h (.cells #[] 73) fun b h_ =>
    App Try.prog 75 75 ⟨some b, 0, 0⟩ s h_ fun s1 h_1 =>
    R s1 h_1
  )
theorem E_slices_Clone_api_Entry_api_Entry (s : Sl) (h : Heap) (R : Sl → Heap → Prop) :
    VF Try.prog [] Try.f80 [.slice s.a s.n s.c] h [.one .sl] R = S_slices_Clone_api_Entry_api_Entry s h R := by kernel_rfl
theorem A_slices_Clone_api_Entry_api_Entry {s : Sl} {h : Heap} {R : Sl → Heap → Prop} (hs : S_slices_Clone_api_Entry_api_Entry s h R) : C_slices_Clone_api_Entry_api_Entry s h R :=
  VF_sound (an := []) (fn := Try.f80) (args := [.slice s.a s.n s.c]) mixed_ Try.func80 (by kernel_rfl) (cast (E_slices_Clone_api_Entry_api_Entry s h R).symm hs)

/-- (*log.Log).Term -/
def S_log_Log_Term (l : Option Addr) (index : Int) (h : Heap) (R : Int → Bool → Heap → Prop) : Prop :=
  Join [] (fun _ h_ =>
    Nn l fun p =>
    Ld .sl h_ p fun (l1 : Sl) =>
    Ix l1 (IntKind.i64.wrap (index - 1)) 2 fun e =>
    Ld (.int .i64) h_ e fun (Term : Int) =>
    R Term true h_
    ) fun J =>
  (bif l.isNone then
    R 0 false h
  else
    (bif decide (index < 0) then
      R 0 false h
    else
      Nn l fun p1 =>
      Ld .sl h p1 fun (l2 : Sl) =>
      (bif decide (index > (l2.n : Int)) then
        R 0 false h
      else
        (bif index == 0 then
          R 0 true h
        else
          J  h
        )
      )
    )
  )
theorem E_log_Log_Term (l : Option Addr) (index : Int) (h : Heap) (R : Int → Bool → Heap → Prop) :
    VF Try.prog [(6, [])] Try.f81 [.pointer l, .int .i64 index] h [.one (.int .i64), .one .bool] R = S_log_Log_Term l index h R := by kernel_rfl
theorem A_log_Log_Term {l : Option Addr} {index : Int} {h : Heap} {R : Int → Bool → Heap → Prop} (hs : S_log_Log_Term l index h R) : C_log_Log_Term l index h R :=
  VF_sound (an := [(6, [])]) (fn := Try.f81) (args := [.pointer l, .int .i64 index]) mixed_ Try.func81 (by kernel_rfl) (cast (E_log_Log_Term l index h R).symm hs)

/-- log.falls -/
def S_log_falls (term : Int) (entries : Sl) (h : Heap) (R : Bool → Heap → Prop) : Prop :=
  Loop [.one (.int .i64), .one (.int .i64)] (fun _ (term1 : Int) (x9 : Int) h_ go =>
    (bif decide (x9 < (entries.n : Int)) then
      Ix entries x9 2 fun e =>
      Ld (.int .i64) h_ e fun (x_Term : Int) =>
      Ld .str h_ (e.add 1) fun (x_Data : ByteArray) =>
      Alloc h_ (.cells #[.int .i64 0, .string (⟨#[]⟩ : ByteArray)] 73) fun e1 h_1 =>
      St h_1 e1 (.int .i64 x_Term) fun h_2 =>
      St h_2 (e1.add 1) (.string x_Data) fun h_3 =>
      Ld (.int .i64) h_3 e1 fun (Term : Int) =>
      (bif decide (Term < term1) then
        R true h_3
      else
        Ld (.int .i64) h_3 e1 fun (Term1 : Int) =>
        go Term1 (IntKind.i64.wrap (x9 + 1)) h_3
      )
    else
      R false h_
    )
    ) (term, 0, ()) h
theorem E_log_falls (term : Int) (entries : Sl) (h : Heap) (R : Bool → Heap → Prop) :
    VF Try.prog [(26, [(0, .one (.int .i64)), (9, .one (.int .i64))])] Try.f82 [.int .i64 term, .slice entries.a entries.n entries.c] h [.one .bool] R = S_log_falls term entries h R := by kernel_rfl
theorem A_log_falls {term : Int} {entries : Sl} {h : Heap} {R : Bool → Heap → Prop} (hs : S_log_falls term entries h R) : C_log_falls term entries h R :=
  VF_sound (an := [(26, [(0, .one (.int .i64)), (9, .one (.int .i64))])]) (fn := Try.f82) (args := [.int .i64 term, .slice entries.a entries.n entries.c]) mixed_ Try.func82 (by kernel_rfl) (cast (E_log_falls term entries h R).symm hs)

/-- (*log.Log).known -/
def S_log_Log_known (l : Option Addr) (index : Int) (entries : Sl) (h : Heap) (R : Int → Heap → Prop) : Prop :=
  Loop [.one (.int .i64)] (fun _ (x13 : Int) h_ go =>
    (bif decide (x13 < (entries.n : Int)) then
      Ix entries x13 2 fun e =>
      Ld (.int .i64) h_ e fun (x_Term : Int) =>
      Ld .str h_ (e.add 1) fun (x_Data : ByteArray) =>
      Alloc h_ (.cells #[.int .i64 0, .string (⟨#[]⟩ : ByteArray)] 73) fun e1 h_1 =>
      St h_1 e1 (.int .i64 x_Term) fun h_2 =>
      St h_2 (e1.add 1) (.string x_Data) fun h_3 =>
      C_log_Log_Term l (IntKind.i64.wrap ((IntKind.i64.wrap (index + 1)) + x13)) h_3 fun (r : Int) (r1 : Bool) h_4 =>
      (bif !r1 then
        R x13 h_4
      else
        Ld (.int .i64) h_4 e1 fun (Term : Int) =>
        (bif r != Term then
          R x13 h_4
        else
          go (IntKind.i64.wrap (x13 + 1)) h_4
        )
      )
    else
      R (entries.n : Int) h_
    )
    ) (0, ()) h
theorem E_log_Log_known (l : Option Addr) (index : Int) (entries : Sl) (h : Heap) (R : Int → Heap → Prop) :
    VF Try.prog [(26, [(13, .one (.int .i64))])] Try.f83 [.pointer l, .int .i64 index, .slice entries.a entries.n entries.c] h [.one (.int .i64)] R = S_log_Log_known l index entries h R := by kernel_rfl
theorem A_log_Log_known {l : Option Addr} {index : Int} {entries : Sl} {h : Heap} {R : Int → Heap → Prop} (hs : S_log_Log_known l index entries h R) : C_log_Log_known l index entries h R :=
  VF_sound (an := [(26, [(13, .one (.int .i64))])]) (fn := Try.f83) (args := [.pointer l, .int .i64 index, .slice entries.a entries.n entries.c]) mixed_ Try.func83 (by kernel_rfl) (cast (E_log_Log_known l index entries h R).symm hs)

end Go.Proofs.Ytfafikomhbedbaa
