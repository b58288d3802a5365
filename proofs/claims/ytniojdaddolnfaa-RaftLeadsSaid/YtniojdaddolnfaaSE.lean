/- Printed by a program: what each function asks of the heap, that this is the reading of its code, and what follows for a call. -/
import Derived.Test.YtniojdaddolnfaaSC
import Derived.Test.YtniojdaddolnfaaProg
set_option maxRecDepth 1000000
namespace Go.Proofs.Ytniojdaddolnfaa
open Go

/-- log.New -/
def S_log_New (l : Sl) (h : Heap) (R : Option Addr → Heap → Prop) : Prop :=
  C_slices_Clone_api_Entry_api_Entry l h fun (r : Sl) h_ =>
  Alloc h_ (.cells #[.slice r.a r.n r.c] 74) fun p h_1 =>
  R (some p) h_1
theorem E_log_New (l : Sl) (h : Heap) (R : Option Addr → Heap → Prop) :
    VF Try.prog [] Try.f22 [.slice l.a l.n l.c] h [.one .ptr] R = S_log_New l h R := by kernel_rfl
theorem A_log_New {l : Sl} {h : Heap} {R : Option Addr → Heap → Prop} (hs : S_log_New l h R) : C_log_New l h R :=
  use_ Try.func22 (by kernel_rfl) (E_log_New l h R) hs

/-- (*log.Log).From -/
def S_log_Log_From (l : Option Addr) (index : Int) (most : Int) (h : Heap) (R : Sl → Heap → Prop) : Prop :=
  C_log_Log_Last l h fun (r : Int) (r1 : Int) h_ =>
  Let (if 1 > index then 1 else index : Int) fun index1 =>
  Join [.one .bool] (fun _ (x22 : Bool) h_1 =>
    (bif x22 then
      R ⟨none, 0, 0⟩ h_1
    else
      Nn l fun p =>
      Ld .sl h_1 p fun (l1 : Sl) =>
      Cut Try.prog 30 l1 (some (.int .i64 (IntKind.i64.wrap (index1 - 1)))) (some (.int .i64 (IntKind.i64.wrap ((IntKind.i64.wrap (index1 - 1)) + (if (IntKind.i64.wrap ((IntKind.i64.wrap (r - index1)) + 1)) < most then IntKind.i64.wrap ((IntKind.i64.wrap (r - index1)) + 1) else most))))) none fun s =>
      C_slices_Clone_api_Entry_api_Entry s h_1 fun (r2 : Sl) h_2 =>
      R r2 h_2
    )
    ) fun J =>
  (bif decide (index1 > r) then
    J true h_
  else
    J (decide (most < 1)) h_
  )
theorem E_log_Log_From (l : Option Addr) (index : Int) (most : Int) (h : Heap) (R : Sl → Heap → Prop) :
    VF Try.prog [(60, [(22, .one .bool)])] Try.f26 [.pointer l, .int .i64 index, .int .i64 most] h [.one .sl] R = S_log_Log_From l index most h R := by kernel_rfl
theorem A_log_Log_From {l : Option Addr} {index : Int} {most : Int} {h : Heap} {R : Sl → Heap → Prop} (hs : S_log_Log_From l index most h R) : C_log_Log_From l index most h R :=
  use_ Try.func26 (by kernel_rfl) (E_log_Log_From l index most h R) hs

/-- (*log.Log).Last -/
def S_log_Log_Last (l : Option Addr) (h : Heap) (R : Int → Int → Heap → Prop) : Prop :=
  Join [.one .bool] (fun _ (x14 : Bool) h_ =>
    (bif x14 then
      R 0 0 h_
    else
      Nn l fun p =>
      Ld .sl h_ p fun (l1 : Sl) =>
      Let ((l1.n : Int) : Int) fun n =>
      Nn l fun p1 =>
      Ld .sl h_ p1 fun (l2 : Sl) =>
      Ix l2 (IntKind.i64.wrap (n - 1)) 2 fun e =>
      Ld (.int .i64) h_ e fun (Term : Int) =>
      R n Term h_
    )
    ) fun J =>
  (bif l.isNone then
    J true h
  else
    Nn l fun p2 =>
    Ld .sl h p2 fun (l3 : Sl) =>
    J ((l3.n : Int) == 0) h
  )
theorem E_log_Log_Last (l : Option Addr) (h : Heap) (R : Int → Int → Heap → Prop) :
    VF Try.prog [(12, [(14, .one .bool)])] Try.f36 [.pointer l] h [.one (.int .i64), .one (.int .i64)] R = S_log_Log_Last l h R := by kernel_rfl
theorem A_log_Log_Last {l : Option Addr} {h : Heap} {R : Int → Int → Heap → Prop} (hs : S_log_Log_Last l h R) : C_log_Log_Last l h R :=
  use_ Try.func36 (by kernel_rfl) (E_log_Log_Last l h R) hs

/-- (*log.Log).All -/
def S_log_Log_All (l : Option Addr) (h : Heap) (R : Sl → Heap → Prop) : Prop :=
  (bif l.isNone then
    R ⟨none, 0, 0⟩ h
  else
    Nn l fun p =>
    Ld .sl h p fun (l1 : Sl) =>
    C_slices_Clone_api_Entry_api_Entry l1 h fun (r : Sl) h_ =>
    R r h_
  )
theorem E_log_Log_All (l : Option Addr) (h : Heap) (R : Sl → Heap → Prop) :
    VF Try.prog [] Try.f37 [.pointer l] h [.one .sl] R = S_log_Log_All l h R := by kernel_rfl
theorem A_log_Log_All {l : Option Addr} {h : Heap} {R : Sl → Heap → Prop} (hs : S_log_Log_All l h R) : C_log_Log_All l h R :=
  use_ Try.func37 (by kernel_rfl) (E_log_Log_All l h R) hs

/-- slices.Clone[[]api.Entry,api.Entry] -/
def S_slices_Clone_api_Entry_api_Entry (s : Sl) (h : Heap) (R : Sl → Heap → Prop) : Prop :=
  (bif s.a.isNone then
    R ⟨none, 0, 0⟩ h
  else
    Alloc h (.cells #[] 39) fun b h_ =>
    App Try.prog 30 30 ⟨some b, 0, 0⟩ s h_ fun s1 h_1 =>
    R s1 h_1
  )
theorem E_slices_Clone_api_Entry_api_Entry (s : Sl) (h : Heap) (R : Sl → Heap → Prop) :
    VF Try.prog [] Try.f38 [.slice s.a s.n s.c] h [.one .sl] R = S_slices_Clone_api_Entry_api_Entry s h R := by kernel_rfl
theorem A_slices_Clone_api_Entry_api_Entry {s : Sl} {h : Heap} {R : Sl → Heap → Prop} (hs : S_slices_Clone_api_Entry_api_Entry s h R) : C_slices_Clone_api_Entry_api_Entry s h R :=
  use_ Try.func38 (by kernel_rfl) (E_slices_Clone_api_Entry_api_Entry s h R) hs

/-- (*log.Log).Add -/
def S_log_Log_Add (l : Option Addr) (e : KL [.int .i64, .str]) (h : Heap) (R : Int → Heap → Prop) : Prop :=
  Alloc h (.cells #[.int .i64 e.1, .string e.2.1] 39) fun e1 h_ =>
  C_log_Log_Last l h_ fun (r : Int) (r1 : Int) h_1 =>
  (bif l.isNone then
    R 1 h_1
  else
    Ld (.int .i64) h_1 e1 fun (Term : Int) =>
    (bif decide (Term < r1) then
      R 5 h_1
    else
      (bif decide (r ≥ 1024) then
        R 7 h_1
      else
        Nn l fun p =>
        Ld .sl h_1 p fun (l1 : Sl) =>
        Ld (.int .i64) h_1 e1 fun (x_Term : Int) =>
        Ld .str h_1 (e1.add 1) fun (x_Data : ByteArray) =>
        Alloc h_1 (.cells #[.int .i64 x_Term, .string x_Data] 39) fun b h_2 =>
        (Ld .sl h_2 p fun (l2 : Sl) => (.slice l2.a l2.n l2.c : Value) = .slice l1.a l1.n l1.c) ∧
        App Try.prog 30 30 l1 ⟨some b, 1, 1⟩ h_2 fun s h_3 =>
        Nn l fun p1 =>
        St h_3 p1 (.slice s.a s.n s.c) fun h_4 =>
        R 0 h_4
      )
    )
  )
theorem E_log_Log_Add (l : Option Addr) (e : KL [.int .i64, .str]) (h : Heap) (R : Int → Heap → Prop) :
    VF Try.prog [] Try.f43 [.pointer l, .agg ⟨KL.vals [.int .i64, .str] e⟩] h [.one (.int .i64)] R = S_log_Log_Add l e h R := by kernel_rfl
theorem A_log_Log_Add {l : Option Addr} {e : KL [.int .i64, .str]} {h : Heap} {R : Int → Heap → Prop} (hs : S_log_Log_Add l e h R) : C_log_Log_Add l e h R :=
  use_ Try.func43 (by kernel_rfl) (E_log_Log_Add l e h R) hs

/-- (*log.Log).Younger -/
def S_log_Log_Younger (l : Option Addr) (index : Int) (term : Int) (h : Heap) (R : Bool → Heap → Prop) : Prop :=
  C_log_Log_Last l h fun (r : Int) (r1 : Int) h_ =>
  (bif !l.isNone then
    (bif decide (term > r1) then
      R true h_
    else
      (bif term == r1 then
        R (decide (index ≥ r)) h_
      else
        R false h_
      )
    )
  else
    R false h_
  )
theorem E_log_Log_Younger (l : Option Addr) (index : Int) (term : Int) (h : Heap) (R : Bool → Heap → Prop) :
    VF Try.prog [] Try.f48 [.pointer l, .int .i64 index, .int .i64 term] h [.one .bool] R = S_log_Log_Younger l index term h R := by kernel_rfl
theorem A_log_Log_Younger {l : Option Addr} {index : Int} {term : Int} {h : Heap} {R : Bool → Heap → Prop} (hs : S_log_Log_Younger l index term h R) : C_log_Log_Younger l index term h R :=
  use_ Try.func48 (by kernel_rfl) (E_log_Log_Younger l index term h R) hs

/-- (*log.Log).Put -/
def S_log_Log_Put (l : Option Addr) (index : Int) (term : Int) (entries : Sl) (h : Heap) (R : Int → Int → Heap → Prop) : Prop :=
  (bif l.isNone then
    R 0 1 h
  else
    C_log_Log_Term l index h fun (r : Int) (r1 : Bool) h_ =>
    (bif !r1 then
      R 0 6 h_
    else
      (bif r != term then
        R 0 8 h_
      else
        C_log_falls term entries h_ fun (r2 : Bool) h_1 =>
        (bif r2 then
          R 0 5 h_1
        else
          C_log_Log_known l index entries h_1 fun (r3 : Int) h_2 =>
          (bif r3 == (entries.n : Int) then
            R 0 0 h_2
          else
            (bif decide ((IntKind.i64.wrap (index + (entries.n : Int))) > 1024) then
              R 0 7 h_2
            else
              Nn l fun p =>
              Ld .sl h_2 p fun (l1 : Sl) =>
              Cut Try.prog 30 l1 none (some (.int .i64 (IntKind.i64.wrap (index + r3)))) (some (.int .i64 (IntKind.i64.wrap (index + r3)))) fun s =>
              Cut Try.prog 30 entries (some (.int .i64 r3)) none none fun s1 =>
              App Try.prog 30 30 s s1 h_2 fun s2 h_3 =>
              Nn l fun p1 =>
              St h_3 p1 (.slice s2.a s2.n s2.c) fun h_4 =>
              R (IntKind.i64.wrap ((IntKind.i64.wrap (index + r3)) + 1)) 0 h_4
            )
          )
        )
      )
    )
  )
theorem E_log_Log_Put (l : Option Addr) (index : Int) (term : Int) (entries : Sl) (h : Heap) (R : Int → Int → Heap → Prop) :
    VF Try.prog [] Try.f51 [.pointer l, .int .i64 index, .int .i64 term, .slice entries.a entries.n entries.c] h [.one (.int .i64), .one (.int .i64)] R = S_log_Log_Put l index term entries h R := by kernel_rfl
theorem A_log_Log_Put {l : Option Addr} {index : Int} {term : Int} {entries : Sl} {h : Heap} {R : Int → Int → Heap → Prop} (hs : S_log_Log_Put l index term entries h R) : C_log_Log_Put l index term entries h R :=
  use_ Try.func51 (by kernel_rfl) (E_log_Log_Put l index term entries h R) hs

/-- (*log.Log).Term -/
def S_log_Log_Term (l : Option Addr) (index : Int) (h : Heap) (R : Int → Bool → Heap → Prop) : Prop :=
  Join [] (fun _ h_ =>
    Nn l fun p =>
    Ld .sl h_ p fun (l1 : Sl) =>
    Ix l1 (IntKind.i64.wrap (index - 1)) 2 fun e =>
    Ld (.int .i64) h_ e fun (Term : Int) =>
    R Term true h_
    ) fun J =>
  (bif l.isNone then
    R 0 false h
  else
    (bif decide (index < 0) then
      R 0 false h
    else
      Nn l fun p1 =>
      Ld .sl h p1 fun (l2 : Sl) =>
      (bif decide (index > (l2.n : Int)) then
        R 0 false h
      else
        (bif index == 0 then
          R 0 true h
        else
          J  h
        )
      )
    )
  )
theorem E_log_Log_Term (l : Option Addr) (index : Int) (h : Heap) (R : Int → Bool → Heap → Prop) :
    VF Try.prog [(6, [])] Try.f54 [.pointer l, .int .i64 index] h [.one (.int .i64), .one .bool] R = S_log_Log_Term l index h R := by kernel_rfl
theorem A_log_Log_Term {l : Option Addr} {index : Int} {h : Heap} {R : Int → Bool → Heap → Prop} (hs : S_log_Log_Term l index h R) : C_log_Log_Term l index h R :=
  use_ Try.func54 (by kernel_rfl) (E_log_Log_Term l index h R) hs

/-- log.falls -/
def S_log_falls (term : Int) (entries : Sl) (h : Heap) (R : Bool → Heap → Prop) : Prop :=
  Loop [.one (.int .i64), .one (.int .i64)] (fun _ (term1 : Int) (x9 : Int) h_ go =>
    (bif decide (x9 < (entries.n : Int)) then
      Ix entries x9 2 fun e =>
      Ld (.int .i64) h_ e fun (x_Term : Int) =>
      Ld .str h_ (e.add 1) fun (x_Data : ByteArray) =>
      Alloc h_ (.cells #[.int .i64 0, .string (⟨#[]⟩ : ByteArray)] 39) fun e1 h_1 =>
      St h_1 e1 (.int .i64 x_Term) fun h_2 =>
      St h_2 (e1.add 1) (.string x_Data) fun h_3 =>
      Ld (.int .i64) h_3 e1 fun (Term : Int) =>
      (bif decide (Term < term1) then
        R true h_3
      else
        Ld (.int .i64) h_3 e1 fun (Term1 : Int) =>
        go Term1 (IntKind.i64.wrap (x9 + 1)) h_3
      )
    else
      R false h_
    )
    ) (term, 0, ()) h
theorem E_log_falls (term : Int) (entries : Sl) (h : Heap) (R : Bool → Heap → Prop) :
    VF Try.prog [(26, [(0, .one (.int .i64)), (9, .one (.int .i64))])] Try.f56 [.int .i64 term, .slice entries.a entries.n entries.c] h [.one .bool] R = S_log_falls term entries h R := by kernel_rfl
theorem A_log_falls {term : Int} {entries : Sl} {h : Heap} {R : Bool → Heap → Prop} (hs : S_log_falls term entries h R) : C_log_falls term entries h R :=
  use_ Try.func56 (by kernel_rfl) (E_log_falls term entries h R) hs

/-- (*log.Log).known -/
def S_log_Log_known (l : Option Addr) (index : Int) (entries : Sl) (h : Heap) (R : Int → Heap → Prop) : Prop :=
  Loop [.one (.int .i64)] (fun _ (x13 : Int) h_ go =>
    (bif decide (x13 < (entries.n : Int)) then
      Ix entries x13 2 fun e =>
      Ld (.int .i64) h_ e fun (x_Term : Int) =>
      Ld .str h_ (e.add 1) fun (x_Data : ByteArray) =>
      Alloc h_ (.cells #[.int .i64 0, .string (⟨#[]⟩ : ByteArray)] 39) fun e1 h_1 =>
      St h_1 e1 (.int .i64 x_Term) fun h_2 =>
      St h_2 (e1.add 1) (.string x_Data) fun h_3 =>
      C_log_Log_Term l (IntKind.i64.wrap ((IntKind.i64.wrap (index + 1)) + x13)) h_3 fun (r : Int) (r1 : Bool) h_4 =>
      (bif !r1 then
        R x13 h_4
      else
        Ld (.int .i64) h_4 e1 fun (Term : Int) =>
        (bif r != Term then
          R x13 h_4
        else
          go (IntKind.i64.wrap (x13 + 1)) h_4
        )
      )
    else
      R (entries.n : Int) h_
    )
    ) (0, ()) h
theorem E_log_Log_known (l : Option Addr) (index : Int) (entries : Sl) (h : Heap) (R : Int → Heap → Prop) :
    VF Try.prog [(26, [(13, .one (.int .i64))])] Try.f57 [.pointer l, .int .i64 index, .slice entries.a entries.n entries.c] h [.one (.int .i64)] R = S_log_Log_known l index entries h R := by kernel_rfl
theorem A_log_Log_known {l : Option Addr} {index : Int} {entries : Sl} {h : Heap} {R : Int → Heap → Prop} (hs : S_log_Log_known l index entries h R) : C_log_Log_known l index entries h R :=
  use_ Try.func57 (by kernel_rfl) (E_log_Log_known l index entries h R) hs

end Go.Proofs.Ytniojdaddolnfaa
