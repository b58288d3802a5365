/- Printed by a program: what each function asks of the heap, that this is the reading of its code, and what follows for a call. -/
import Derived.Test.YtmpekddpehhdnaaSC
import Derived.Test.YtmpekddpehhdnaaVg
import Derived.Test.YtmpekddpehhdnaaProg
set_option maxRecDepth 1000000
namespace Go.Proofs.Ytmpekddpehhdnaa
open Go

theorem useG_SU {an : List (Nat × Slots)} {f : FuncId} {fn : Func} {args : List Value} {h : Heap} {ss : List Sh} {R : TH (Heap → Prop) ss} {S : Prop} (hf : Try.prog.funcs[f]? = some fn) (hb : codeOk fn args.length = true) (e : VG Try.prog an fn args h ss R = S) (hs : S) : CallR Try.prog f args h ss R := VG_sound (an := an) mixed_ hf hb (cast e.symm hs)
/-- status.New -/
def S_status_New  (h : Heap) (R : Option Addr → Heap → Prop) : Prop :=
  Alloc h (.cells #[.slice none 0 0] 150) fun p h_ =>
  R (some p) h_
theorem E_status_New  (h : Heap) (R : Option Addr → Heap → Prop) :
    VF Try.prog [] Try.f37 [] h [.one .ptr] R = S_status_New  h R := by kernel_rfl
theorem A_status_New  {h : Heap} {R : Option Addr → Heap → Prop} (hs : S_status_New  h R) : C_status_New  h R :=
  use_ Try.func37 (by kernel_rfl) (E_status_New  h R) hs

/-- (*status.Table).State -/
def S_status_Table_State (t : Option Addr) (tx : Int) (attempt : Int) (h : Heap) (R : Int → Heap → Prop) : Prop :=
  (bif t.isNone then
    R 0 h
  else
    C_status_Table_how t tx attempt h fun (r : Int) (r1 : Option Addr) h_ =>
    (bif decide (r > 0) then
      R 0 h_
    else
      (bif decide (r < 0) then
        R 3 h_
      else
        Nn r1 fun p =>
        Ld (.int .i64) h_ (p.add 3) fun (State : Int) =>
        R State h_
      )
    )
  )
theorem E_status_Table_State (t : Option Addr) (tx : Int) (attempt : Int) (h : Heap) (R : Int → Heap → Prop) :
    VF Try.prog [] Try.f40 [.pointer t, .int .i64 tx, .int .i64 attempt] h [.one (.int .i64)] R = S_status_Table_State t tx attempt h R := by kernel_rfl
theorem A_status_Table_State {t : Option Addr} {tx : Int} {attempt : Int} {h : Heap} {R : Int → Heap → Prop} (hs : S_status_Table_State t tx attempt h R) : C_status_Table_State t tx attempt h R :=
  use_ Try.func40 (by kernel_rfl) (E_status_Table_State t tx attempt h R) hs

/-- (*status.Table).Rows -/
def S_status_Table_Rows (t : Option Addr) (h : Heap) (R : Sl → Heap → Prop) : Prop :=
  (bif t.isNone then
    R ⟨none, 0, 0⟩ h
  else
    Nn t fun p =>
    Ld .sl h p fun (l : Sl) =>
    C_slices_Clone_api_Row_api_Row l h fun (r : Sl) h_ =>
    R r h_
  )
theorem E_status_Table_Rows (t : Option Addr) (h : Heap) (R : Sl → Heap → Prop) :
    VF Try.prog [] Try.f43 [.pointer t] h [.one .sl] R = S_status_Table_Rows t h R := by kernel_rfl
theorem A_status_Table_Rows {t : Option Addr} {h : Heap} {R : Sl → Heap → Prop} (hs : S_status_Table_Rows t h R) : C_status_Table_Rows t h R :=
  use_ Try.func43 (by kernel_rfl) (E_status_Table_Rows t h R) hs

/-- (*status.Table).Row -/
def S_status_Table_Row (t : Option Addr) (tx : Int) (h : Heap) (R : KL [.int .i64, .int .i64, .int .i64, .int .i64, .int .i64] → Bool → Heap → Prop) : Prop :=
  Alloc h (.cells #[.int .i64 0, .int .i64 0, .int .i64 0, .int .i64 0, .int .i64 0] 81) fun p h_ =>
  (bif t.isNone then
    St h_ p (.int .i64 0) fun h_1 =>
    St h_1 (p.add 1) (.int .i64 0) fun h_2 =>
    St h_2 (p.add 2) (.int .i64 0) fun h_3 =>
    St h_3 (p.add 3) (.int .i64 0) fun h_4 =>
    St h_4 (p.add 4) (.int .i64 0) fun h_5 =>
    Ld (.int .i64) h_5 p fun (r_0 : Int) =>
    Ld (.int .i64) h_5 (p.add 1) fun (r_1 : Int) =>
    Ld (.int .i64) h_5 (p.add 2) fun (r_2 : Int) =>
    Ld (.int .i64) h_5 (p.add 3) fun (r_3 : Int) =>
    Ld (.int .i64) h_5 (p.add 4) fun (r_4 : Int) =>
    R (r_0, r_1, r_2, r_3, r_4, ()) false h_5
  else
    C_status_Table_find t tx h_ fun (r : Int) (r1 : Bool) h_6 =>
    (bif !r1 then
      St h_6 p (.int .i64 0) fun h_7 =>
      St h_7 (p.add 1) (.int .i64 0) fun h_8 =>
      St h_8 (p.add 2) (.int .i64 0) fun h_9 =>
      St h_9 (p.add 3) (.int .i64 0) fun h_10 =>
      St h_10 (p.add 4) (.int .i64 0) fun h_11 =>
      Ld (.int .i64) h_11 p fun (r_01 : Int) =>
      Ld (.int .i64) h_11 (p.add 1) fun (r_11 : Int) =>
      Ld (.int .i64) h_11 (p.add 2) fun (r_21 : Int) =>
      Ld (.int .i64) h_11 (p.add 3) fun (r_31 : Int) =>
      Ld (.int .i64) h_11 (p.add 4) fun (r_41 : Int) =>
      R (r_01, r_11, r_21, r_31, r_41, ()) false h_11
    else
      Nn t fun p1 =>
      Ld .sl h_6 p1 fun (l : Sl) =>
      Ix l r 5 fun e =>
      Ld (.int .i64) h_6 e fun (x_Tx : Int) =>
      Ld (.int .i64) h_6 (e.add 1) fun (x_Attempt : Int) =>
      Ld (.int .i64) h_6 (e.add 2) fun (x_Stamp : Int) =>
      Ld (.int .i64) h_6 (e.add 3) fun (x_State : Int) =>
      Ld (.int .i64) h_6 (e.add 4) fun (x_Heard : Int) =>
      St h_6 p (.int .i64 x_Tx) fun h_12 =>
      St h_12 (p.add 1) (.int .i64 x_Attempt) fun h_13 =>
      St h_13 (p.add 2) (.int .i64 x_Stamp) fun h_14 =>
      St h_14 (p.add 3) (.int .i64 x_State) fun h_15 =>
      St h_15 (p.add 4) (.int .i64 x_Heard) fun h_16 =>
      Ld (.int .i64) h_16 p fun (r_02 : Int) =>
      Ld (.int .i64) h_16 (p.add 1) fun (r_12 : Int) =>
      Ld (.int .i64) h_16 (p.add 2) fun (r_22 : Int) =>
      Ld (.int .i64) h_16 (p.add 3) fun (r_32 : Int) =>
      Ld (.int .i64) h_16 (p.add 4) fun (r_42 : Int) =>
      R (r_02, r_12, r_22, r_32, r_42, ()) true h_16
    )
  )
theorem E_status_Table_Row (t : Option Addr) (tx : Int) (h : Heap) (R : KL [.int .i64, .int .i64, .int .i64, .int .i64, .int .i64] → Bool → Heap → Prop) :
    VG Try.prog [] Try.f45 [.pointer t, .int .i64 tx] h [.agg [.int .i64, .int .i64, .int .i64, .int .i64, .int .i64], .one .bool] R = S_status_Table_Row t tx h R := by kernel_rfl
theorem A_status_Table_Row {t : Option Addr} {tx : Int} {h : Heap} {R : KL [.int .i64, .int .i64, .int .i64, .int .i64, .int .i64] → Bool → Heap → Prop} (hs : S_status_Table_Row t tx h R) : C_status_Table_Row t tx h R :=
  useG_SU Try.func45 (by kernel_rfl) (E_status_Table_Row t tx h R) hs

/-- status.From -/
def S_status_From (l : Sl) (h : Heap) (R : Option Addr → Int → Heap → Prop) : Prop :=
  C_slices_Clone_api_Row_api_Row l h fun (r : Sl) h_ =>
  Alloc h_ (.cells #[.slice r.a r.n r.c] 150) fun p h_1 =>
  Loop [.one (.int .i64)] (fun _ (x13 : Int) h_2 go =>
    (bif decide (x13 < (l.n : Int)) then
      Ix l x13 5 fun e =>
      Ld (.int .i64) h_2 e fun (x_Tx : Int) =>
      Ld (.int .i64) h_2 (e.add 1) fun (x_Attempt : Int) =>
      Ld (.int .i64) h_2 (e.add 2) fun (x_Stamp : Int) =>
      Ld (.int .i64) h_2 (e.add 3) fun (x_State : Int) =>
      Ld (.int .i64) h_2 (e.add 4) fun (x_Heard : Int) =>
      Alloc h_2 (.cells #[.int .i64 0, .int .i64 0, .int .i64 0, .int .i64 0, .int .i64 0] 81) fun r1 h_3 =>
      St h_3 r1 (.int .i64 x_Tx) fun h_4 =>
      St h_4 (r1.add 1) (.int .i64 x_Attempt) fun h_5 =>
      St h_5 (r1.add 2) (.int .i64 x_Stamp) fun h_6 =>
      St h_6 (r1.add 3) (.int .i64 x_State) fun h_7 =>
      St h_7 (r1.add 4) (.int .i64 x_Heard) fun h_8 =>
      Ld (.int .i64) h_8 r1 fun (Tx : Int) =>
      Ld (.int .i64) h_8 (r1.add 1) fun (Attempt : Int) =>
      Ld (.int .i64) h_8 (r1.add 4) fun (Heard : Int) =>
      C_status_Table_right (some p) Tx Attempt Heard h_8 fun (r2 : Bool) h_9 =>
      (bif !r2 then
        R none 2 h_9
      else
        Ld (.int .i64) h_9 (r1.add 2) fun (Stamp : Int) =>
        (bif decide (Stamp < 0) then
          R none 2 h_9
        else
          Ld (.int .i64) h_9 (r1.add 2) fun (Stamp1 : Int) =>
          (bif decide (Stamp1 > 1099511627776) then
            R none 2 h_9
          else
            Ld (.int .i64) h_9 (r1.add 3) fun (State : Int) =>
            (bif decide (State < 1) then
              R none 2 h_9
            else
              Ld (.int .i64) h_9 (r1.add 3) fun (State1 : Int) =>
              (bif decide (State1 > 3) then
                R none 2 h_9
              else
                (bif decide (x13 > 0) then
                  Ix l (IntKind.i64.wrap (x13 - 1)) 5 fun e1 =>
                  Ld (.int .i64) h_9 e1 fun (Tx1 : Int) =>
                  Ld (.int .i64) h_9 r1 fun (Tx2 : Int) =>
                  (bif decide (Tx1 ≥ Tx2) then
                    R none 2 h_9
                  else
                    go (IntKind.i64.wrap (x13 + 1)) h_9
                  )
                else
                  go (IntKind.i64.wrap (x13 + 1)) h_9
                )
              )
            )
          )
        )
      )
    else
      R (some p) 0 h_2
    )
    ) (0, ()) h_1
theorem E_status_From (l : Sl) (h : Heap) (R : Option Addr → Int → Heap → Prop) :
    VF Try.prog [(58, [(13, .one (.int .i64))])] Try.f54 [.slice l.a l.n l.c] h [.one .ptr, .one (.int .i64)] R = S_status_From l h R := by kernel_rfl
theorem A_status_From {l : Sl} {h : Heap} {R : Option Addr → Int → Heap → Prop} (hs : S_status_From l h R) : C_status_From l h R :=
  use_ Try.func54 (by kernel_rfl) (E_status_From l h R) hs

/-- (*status.Table).Silent -/
def S_status_Table_Silent (t : Option Addr) (now : Int) (wait : Int) (h : Heap) (R : Sl → Heap → Prop) : Prop :=
  Join [.one .bool] (fun _ (x27 : Bool) h_ =>
    (bif x27 then
      R ⟨none, 0, 0⟩ h_
    else
      Nn t fun p =>
      Ld .sl h_ p fun (l : Sl) =>
      Loop [.one .sl, .one (.int .i64)] (fun _ (out : Sl) (x33 : Int) h_1 go =>
        (bif decide (x33 < (l.n : Int)) then
          Ix l x33 5 fun e =>
          Ld (.int .i64) h_1 e fun (x_Tx : Int) =>
          Ld (.int .i64) h_1 (e.add 1) fun (x_Attempt : Int) =>
          Ld (.int .i64) h_1 (e.add 2) fun (x_Stamp : Int) =>
          Ld (.int .i64) h_1 (e.add 3) fun (x_State : Int) =>
          Ld (.int .i64) h_1 (e.add 4) fun (x_Heard : Int) =>
          Alloc h_1 (.cells #[.int .i64 0, .int .i64 0, .int .i64 0, .int .i64 0, .int .i64 0] 81) fun r h_2 =>
          St h_2 r (.int .i64 x_Tx) fun h_3 =>
          St h_3 (r.add 1) (.int .i64 x_Attempt) fun h_4 =>
          St h_4 (r.add 2) (.int .i64 x_Stamp) fun h_5 =>
          St h_5 (r.add 3) (.int .i64 x_State) fun h_6 =>
          St h_6 (r.add 4) (.int .i64 x_Heard) fun h_7 =>
          Ld (.int .i64) h_7 (r.add 3) fun (State : Int) =>
          (bif State == 1 then
            Ld (.int .i64) h_7 (r.add 4) fun (Heard : Int) =>
            (bif decide ((IntKind.i64.wrap (now - Heard)) > wait) then
              Ld (.int .i64) h_7 r fun (x_Tx1 : Int) =>
              Ld (.int .i64) h_7 (r.add 1) fun (x_Attempt1 : Int) =>
              Ld (.int .i64) h_7 (r.add 2) fun (x_Stamp1 : Int) =>
              Ld (.int .i64) h_7 (r.add 3) fun (x_State1 : Int) =>
              Ld (.int .i64) h_7 (r.add 4) fun (x_Heard1 : Int) =>
              Alloc h_7 (.cells #[.int .i64 x_Tx1, .int .i64 x_Attempt1, .int .i64 x_Stamp1, .int .i64 x_State1, .int .i64 x_Heard1] 81) fun b h_8 =>
              App Try.prog 70 70 out ⟨some b, 1, 1⟩ h_8 fun s h_9 =>
              go s (IntKind.i64.wrap (x33 + 1)) h_9
            else
              go out (IntKind.i64.wrap (x33 + 1)) h_7
            )
          else
            go out (IntKind.i64.wrap (x33 + 1)) h_7
          )
        else
          R out h_1
        )
        ) (⟨none, 0, 0⟩, 0, ()) h_
    )
    ) fun J =>
  (bif t.isNone then
    J true h
  else
    (bif decide (now < 0) then
      J true h
    else
      (bif decide (now > 1099511627776) then
        J true h
      else
        (bif decide (wait < 0) then
          J true h
        else
          J (decide (wait > 1099511627776)) h
        )
      )
    )
  )
theorem E_status_Table_Silent (t : Option Addr) (now : Int) (wait : Int) (h : Heap) (R : Sl → Heap → Prop) :
    VF Try.prog [(12, [(27, .one .bool)]), (122, [(7, .one .sl), (33, .one (.int .i64))])] Try.f55 [.pointer t, .int .i64 now, .int .i64 wait] h [.one .sl] R = S_status_Table_Silent t now wait h R := by kernel_rfl
theorem A_status_Table_Silent {t : Option Addr} {now : Int} {wait : Int} {h : Heap} {R : Sl → Heap → Prop} (hs : S_status_Table_Silent t now wait h R) : C_status_Table_Silent t now wait h R :=
  use_ Try.func55 (by kernel_rfl) (E_status_Table_Silent t now wait h R) hs

/-- (*status.Table).Open -/
def S_status_Table_Open (t : Option Addr) (tx : Int) (attempt : Int) (stamp : Int) (now : Int) (h : Heap) (R : Int → Int → Heap → Prop) : Prop :=
  Join [.one .bool] (fun _ (x27 : Bool) h_ =>
    (bif x27 then
      R 0 1 h_
    else
      C_status_Table_how t tx attempt h_ fun (r : Int) (r1 : Option Addr) h_1 =>
      (bif decide (r > 0) then
        C_status_Table_put t (tx, attempt, stamp, 1, now, ()) h_1 fun (r2 : Int) (r3 : Int) h_2 =>
        R r2 r3 h_2
      else
        (bif decide (r < 0) then
          R 0 9 h_1
        else
          Nn r1 fun p =>
          Ld (.int .i64) h_1 (p.add 3) fun (State : Int) =>
          (bif State == 3 then
            R 0 9 h_1
          else
            Nn r1 fun p1 =>
            Ld (.int .i64) h_1 (p1.add 3) fun (State1 : Int) =>
            R State1 0 h_1
          )
        )
      )
    )
    ) fun J =>
  C_status_Table_right t tx attempt now h fun (r4 : Bool) h_3 =>
  (bif !r4 then
    J true h_3
  else
    (bif decide (stamp < 1) then
      J true h_3
    else
      J (decide (stamp > 1099511627776)) h_3
    )
  )
theorem E_status_Table_Open (t : Option Addr) (tx : Int) (attempt : Int) (stamp : Int) (now : Int) (h : Heap) (R : Int → Int → Heap → Prop) :
    VF Try.prog [(12, [(27, .one .bool)])] Try.f83 [.pointer t, .int .i64 tx, .int .i64 attempt, .int .i64 stamp, .int .i64 now] h [.one (.int .i64), .one (.int .i64)] R = S_status_Table_Open t tx attempt stamp now h R := by kernel_rfl
theorem A_status_Table_Open {t : Option Addr} {tx : Int} {attempt : Int} {stamp : Int} {now : Int} {h : Heap} {R : Int → Int → Heap → Prop} (hs : S_status_Table_Open t tx attempt stamp now h R) : C_status_Table_Open t tx attempt stamp now h R :=
  use_ Try.func83 (by kernel_rfl) (E_status_Table_Open t tx attempt stamp now h R) hs

/-- (*status.Table).Kill -/
def S_status_Table_Kill (t : Option Addr) (tx : Int) (attempt : Int) (now : Int) (h : Heap) (R : Int → Int → Heap → Prop) : Prop :=
  C_status_Table_right t tx attempt now h fun (r : Bool) h_ =>
  (bif !r then
    R 0 1 h_
  else
    C_status_Table_how t tx attempt h_ fun (r1 : Int) (r2 : Option Addr) h_1 =>
    (bif decide (r1 > 0) then
      C_status_Table_put t (tx, attempt, 0, 3, now, ()) h_1 fun (r3 : Int) (r4 : Int) h_2 =>
      R r3 r4 h_2
    else
      (bif decide (r1 < 0) then
        R 3 0 h_1
      else
        Nn r2 fun p =>
        Ld (.int .i64) h_1 (p.add 3) fun (State : Int) =>
        (bif State == 1 then
          Nn r2 fun p1 =>
          St h_1 (p1.add 3) (.int .i64 3) fun h_3 =>
          R 3 0 h_3
        else
          (bif State == 3 then
            R 3 0 h_1
          else
            R 2 0 h_1
          )
        )
      )
    )
  )
theorem E_status_Table_Kill (t : Option Addr) (tx : Int) (attempt : Int) (now : Int) (h : Heap) (R : Int → Int → Heap → Prop) :
    VF Try.prog [] Try.f84 [.pointer t, .int .i64 tx, .int .i64 attempt, .int .i64 now] h [.one (.int .i64), .one (.int .i64)] R = S_status_Table_Kill t tx attempt now h R := by kernel_rfl
theorem A_status_Table_Kill {t : Option Addr} {tx : Int} {attempt : Int} {now : Int} {h : Heap} {R : Int → Int → Heap → Prop} (hs : S_status_Table_Kill t tx attempt now h R) : C_status_Table_Kill t tx attempt now h R :=
  use_ Try.func84 (by kernel_rfl) (E_status_Table_Kill t tx attempt now h R) hs

/-- (*status.Table).Decide -/
def S_status_Table_Decide (t : Option Addr) (tx : Int) (attempt : Int) (h : Heap) (R : Int → Int → Heap → Prop) : Prop :=
  C_status_Table_right t tx attempt 0 h fun (r : Bool) h_ =>
  (bif !r then
    R 0 1 h_
  else
    C_status_Table_how t tx attempt h_ fun (r1 : Int) (r2 : Option Addr) h_1 =>
    (bif decide (r1 > 0) then
      R 0 6 h_1
    else
      (bif decide (r1 < 0) then
        R 3 0 h_1
      else
        Nn r2 fun p =>
        Ld (.int .i64) h_1 (p.add 3) fun (State : Int) =>
        (bif State == 1 then
          Nn r2 fun p1 =>
          St h_1 (p1.add 3) (.int .i64 2) fun h_2 =>
          R 2 0 h_2
        else
          (bif State == 2 then
            R 2 0 h_1
          else
            R 3 0 h_1
          )
        )
      )
    )
  )
theorem E_status_Table_Decide (t : Option Addr) (tx : Int) (attempt : Int) (h : Heap) (R : Int → Int → Heap → Prop) :
    VF Try.prog [] Try.f85 [.pointer t, .int .i64 tx, .int .i64 attempt] h [.one (.int .i64), .one (.int .i64)] R = S_status_Table_Decide t tx attempt h R := by kernel_rfl
theorem A_status_Table_Decide {t : Option Addr} {tx : Int} {attempt : Int} {h : Heap} {R : Int → Int → Heap → Prop} (hs : S_status_Table_Decide t tx attempt h R) : C_status_Table_Decide t tx attempt h R :=
  use_ Try.func85 (by kernel_rfl) (E_status_Table_Decide t tx attempt h R) hs

/-- (*status.Table).Beat -/
def S_status_Table_Beat (t : Option Addr) (tx : Int) (attempt : Int) (now : Int) (h : Heap) (R : Int → Int → Heap → Prop) : Prop :=
  C_status_Table_right t tx attempt now h fun (r : Bool) h_ =>
  (bif !r then
    R 0 1 h_
  else
    C_status_Table_how t tx attempt h_ fun (r1 : Int) (r2 : Option Addr) h_1 =>
    (bif decide (r1 > 0) then
      R 0 6 h_1
    else
      (bif decide (r1 < 0) then
        R 3 0 h_1
      else
        Nn r2 fun p =>
        Ld (.int .i64) h_1 (p.add 3) fun (State : Int) =>
        (bif State == 1 then
          Nn r2 fun p1 =>
          Ld (.int .i64) h_1 (p1.add 4) fun (Heard : Int) =>
          Nn r2 fun p2 =>
          St h_1 (p2.add 4) (.int .i64 (if now > Heard then now else Heard)) fun h_2 =>
          Nn r2 fun p3 =>
          Ld (.int .i64) h_2 (p3.add 3) fun (State1 : Int) =>
          R State1 0 h_2
        else
          Nn r2 fun p4 =>
          Ld (.int .i64) h_1 (p4.add 3) fun (State2 : Int) =>
          R State2 0 h_1
        )
      )
    )
  )
theorem E_status_Table_Beat (t : Option Addr) (tx : Int) (attempt : Int) (now : Int) (h : Heap) (R : Int → Int → Heap → Prop) :
    VF Try.prog [] Try.f86 [.pointer t, .int .i64 tx, .int .i64 attempt, .int .i64 now] h [.one (.int .i64), .one (.int .i64)] R = S_status_Table_Beat t tx attempt now h R := by kernel_rfl
theorem A_status_Table_Beat {t : Option Addr} {tx : Int} {attempt : Int} {now : Int} {h : Heap} {R : Int → Int → Heap → Prop} (hs : S_status_Table_Beat t tx attempt now h R) : C_status_Table_Beat t tx attempt now h R :=
  use_ Try.func86 (by kernel_rfl) (E_status_Table_Beat t tx attempt now h R) hs

/-- (*status.Table).how -/
def S_status_Table_how (t : Option Addr) (tx : Int) (attempt : Int) (h : Heap) (R : Int → Option Addr → Heap → Prop) : Prop :=
  C_status_Table_find t tx h fun (r : Int) (r1 : Bool) h_ =>
  (bif !r1 then
    R 1 none h_
  else
    Nn t fun p =>
    Ld .sl h_ p fun (l : Sl) =>
    Ix l r 5 fun e =>
    Ld (.int .i64) h_ (e.add 1) fun (Attempt : Int) =>
    Nn t fun p1 =>
    Ld .sl h_ p1 fun (l1 : Sl) =>
    Ix l1 r 5 fun e1 =>
    C_cmp_Compare_int attempt Attempt h_ fun (r2 : Int) h_1 =>
    (Ld .sl h_1 p1 fun (l2 : Sl) => (.slice l2.a l2.n l2.c : Value) = .slice l1.a l1.n l1.c) ∧
    R r2 (some e1) h_1
  )
theorem E_status_Table_how (t : Option Addr) (tx : Int) (attempt : Int) (h : Heap) (R : Int → Option Addr → Heap → Prop) :
    VF Try.prog [] Try.f88 [.pointer t, .int .i64 tx, .int .i64 attempt] h [.one (.int .i64), .one .ptr] R = S_status_Table_how t tx attempt h R := by kernel_rfl
theorem A_status_Table_how {t : Option Addr} {tx : Int} {attempt : Int} {h : Heap} {R : Int → Option Addr → Heap → Prop} (hs : S_status_Table_how t tx attempt h R) : C_status_Table_how t tx attempt h R :=
  use_ Try.func88 (by kernel_rfl) (E_status_Table_how t tx attempt h R) hs

/-- slices.Clone[[]api.Row,api.Row] -/
def S_slices_Clone_api_Row_api_Row (s : Sl) (h : Heap) (R : Sl → Heap → Prop) : Prop :=
  (bif s.a.isNone then
    R ⟨none, 0, 0⟩ h
  else
    Alloc h (.cells #[] 81) fun b h_ =>
    App Try.prog 70 70 ⟨some b, 0, 0⟩ s h_ fun s1 h_1 =>
    R s1 h_1
  )
theorem E_slices_Clone_api_Row_api_Row (s : Sl) (h : Heap) (R : Sl → Heap → Prop) :
    VF Try.prog [] Try.f90 [.slice s.a s.n s.c] h [.one .sl] R = S_slices_Clone_api_Row_api_Row s h R := by kernel_rfl
theorem A_slices_Clone_api_Row_api_Row {s : Sl} {h : Heap} {R : Sl → Heap → Prop} (hs : S_slices_Clone_api_Row_api_Row s h R) : C_slices_Clone_api_Row_api_Row s h R :=
  use_ Try.func90 (by kernel_rfl) (E_slices_Clone_api_Row_api_Row s h R) hs

/-- (*status.Table).find -/
def S_status_Table_find (t : Option Addr) (tx : Int) (h : Heap) (R : Int → Bool → Heap → Prop) : Prop :=
  Nn t fun p =>
  Ld .sl h p fun (l : Sl) =>
  C_slices_BinarySearchFunc_api_Row_api_Row_int l tx (.func (.func 123) #[] #[]) h fun (r : Int) (r1 : Bool) h_ =>
  R r r1 h_
theorem E_status_Table_find (t : Option Addr) (tx : Int) (h : Heap) (R : Int → Bool → Heap → Prop) :
    VF Try.prog [] Try.f91 [.pointer t, .int .i64 tx] h [.one (.int .i64), .one .bool] R = S_status_Table_find t tx h R := by kernel_rfl
theorem A_status_Table_find {t : Option Addr} {tx : Int} {h : Heap} {R : Int → Bool → Heap → Prop} (hs : S_status_Table_find t tx h R) : C_status_Table_find t tx h R :=
  use_ Try.func91 (by kernel_rfl) (E_status_Table_find t tx h R) hs

/-- (*status.Table).right -/
def S_status_Table_right (t : Option Addr) (tx : Int) (attempt : Int) (now : Int) (h : Heap) (R : Bool → Heap → Prop) : Prop :=
  (bif !t.isNone then
    (bif decide (tx ≥ 0) then
      (bif decide (tx ≤ 1048576) then
        (bif decide (attempt ≥ 0) then
          (bif decide (attempt ≤ 1048576) then
            (bif decide (now ≥ 0) then
              R (decide (now ≤ 1099511627776)) h
            else
              R false h
            )
          else
            R false h
          )
        else
          R false h
        )
      else
        R false h
      )
    else
      R false h
    )
  else
    R false h
  )
theorem E_status_Table_right (t : Option Addr) (tx : Int) (attempt : Int) (now : Int) (h : Heap) (R : Bool → Heap → Prop) :
    VF Try.prog [] Try.f103 [.pointer t, .int .i64 tx, .int .i64 attempt, .int .i64 now] h [.one .bool] R = S_status_Table_right t tx attempt now h R := by kernel_rfl
theorem A_status_Table_right {t : Option Addr} {tx : Int} {attempt : Int} {now : Int} {h : Heap} {R : Bool → Heap → Prop} (hs : S_status_Table_right t tx attempt now h R) : C_status_Table_right t tx attempt now h R :=
  use_ Try.func103 (by kernel_rfl) (E_status_Table_right t tx attempt now h R) hs

/-- (*status.Table).put -/
def S_status_Table_put (t : Option Addr) (r : KL [.int .i64, .int .i64, .int .i64, .int .i64, .int .i64]) (h : Heap) (R : Int → Int → Heap → Prop) : Prop :=
  Alloc h (.cells #[.int .i64 r.1, .int .i64 r.2.1, .int .i64 r.2.2.1, .int .i64 r.2.2.2.1, .int .i64 r.2.2.2.2.1] 81) fun r1 h_ =>
  Ld (.int .i64) h_ r1 fun (Tx : Int) =>
  C_status_Table_find t Tx h_ fun (r2 : Int) (r3 : Bool) h_1 =>
  (bif !r3 then
    Nn t fun p =>
    Ld .sl h_1 p fun (l : Sl) =>
    Ld (.int .i64) h_1 r1 fun (x_Tx : Int) =>
    Ld (.int .i64) h_1 (r1.add 1) fun (x_Attempt : Int) =>
    Ld (.int .i64) h_1 (r1.add 2) fun (x_Stamp : Int) =>
    Ld (.int .i64) h_1 (r1.add 3) fun (x_State : Int) =>
    Ld (.int .i64) h_1 (r1.add 4) fun (x_Heard : Int) =>
    Alloc h_1 (.cells #[.int .i64 x_Tx, .int .i64 x_Attempt, .int .i64 x_Stamp, .int .i64 x_State, .int .i64 x_Heard] 81) fun b h_2 =>
    (Ld .sl h_2 p fun (l1 : Sl) => (.slice l1.a l1.n l1.c : Value) = .slice l.a l.n l.c) ∧
    C_slices_Insert_api_Row_api_Row l r2 ⟨some b, 1, 1⟩ h_2 fun (r4 : Sl) h_3 =>
    Nn t fun p1 =>
    St h_3 p1 (.slice r4.a r4.n r4.c) fun h_4 =>
    Ld (.int .i64) h_4 (r1.add 3) fun (State : Int) =>
    R State 0 h_4
  else
    Nn t fun p2 =>
    Ld .sl h_1 p2 fun (l2 : Sl) =>
    Ix l2 r2 5 fun e =>
    Ld (.int .i64) h_1 e fun (x_Tx1 : Int) =>
    Ld (.int .i64) h_1 (e.add 1) fun (x_Attempt1 : Int) =>
    Ld (.int .i64) h_1 (e.add 2) fun (x_Stamp1 : Int) =>
    Ld (.int .i64) h_1 (e.add 3) fun (x_State1 : Int) =>
    Ld (.int .i64) h_1 (e.add 4) fun (x_Heard1 : Int) =>
    Alloc h_1 (.cells #[.int .i64 0, .int .i64 0, .int .i64 0, .int .i64 0, .int .i64 0] 81) fun old h_5 =>
    St h_5 old (.int .i64 x_Tx1) fun h_6 =>
    St h_6 (old.add 1) (.int .i64 x_Attempt1) fun h_7 =>
    St h_7 (old.add 2) (.int .i64 x_Stamp1) fun h_8 =>
    St h_8 (old.add 3) (.int .i64 x_State1) fun h_9 =>
    St h_9 (old.add 4) (.int .i64 x_Heard1) fun h_10 =>
    Ld (.int .i64) h_10 (old.add 3) fun (State1 : Int) =>
    (bif State1 != 3 then
      R 0 8 h_10
    else
      Ld (.int .i64) h_10 (old.add 2) fun (Stamp : Int) =>
      Join [] (fun _ h_11 =>
        Nn t fun p3 =>
        Ld .sl h_11 p3 fun (l3 : Sl) =>
        Ld (.int .i64) h_11 r1 fun (x_Tx2 : Int) =>
        Ld (.int .i64) h_11 (r1.add 1) fun (x_Attempt2 : Int) =>
        Ld (.int .i64) h_11 (r1.add 2) fun (x_Stamp2 : Int) =>
        Ld (.int .i64) h_11 (r1.add 3) fun (x_State2 : Int) =>
        Ld (.int .i64) h_11 (r1.add 4) fun (x_Heard2 : Int) =>
        Ix l3 r2 5 fun e1 =>
        St h_11 e1 (.int .i64 x_Tx2) fun h_12 =>
        St h_12 (e1.add 1) (.int .i64 x_Attempt2) fun h_13 =>
        St h_13 (e1.add 2) (.int .i64 x_Stamp2) fun h_14 =>
        St h_14 (e1.add 3) (.int .i64 x_State2) fun h_15 =>
        St h_15 (e1.add 4) (.int .i64 x_Heard2) fun h_16 =>
        Ld (.int .i64) h_16 (r1.add 3) fun (State2 : Int) =>
        R State2 0 h_16
        ) fun J =>
      (bif decide (Stamp > 0) then
        Ld (.int .i64) h_10 (old.add 2) fun (Stamp1 : Int) =>
        St h_10 (r1.add 2) (.int .i64 Stamp1) fun h_17 =>
        J  h_17
      else
        J  h_10
      )
    )
  )
theorem E_status_Table_put (t : Option Addr) (r : KL [.int .i64, .int .i64, .int .i64, .int .i64, .int .i64]) (h : Heap) (R : Int → Int → Heap → Prop) :
    VF Try.prog [(253, [])] Try.f118 [.pointer t, .agg ⟨KL.vals [.int .i64, .int .i64, .int .i64, .int .i64, .int .i64] r⟩] h [.one (.int .i64), .one (.int .i64)] R = S_status_Table_put t r h R := by kernel_rfl
theorem A_status_Table_put {t : Option Addr} {r : KL [.int .i64, .int .i64, .int .i64, .int .i64, .int .i64]} {h : Heap} {R : Int → Int → Heap → Prop} (hs : S_status_Table_put t r h R) : C_status_Table_put t r h R :=
  use_ Try.func118 (by kernel_rfl) (E_status_Table_put t r h R) hs

/-- cmp.Compare[int] -/
def S_cmp_Compare_int (x : Int) (y : Int) (h : Heap) (R : Int → Heap → Prop) : Prop :=
  C_cmp_isNaN_int x h fun (r : Bool) h_ =>
  C_cmp_isNaN_int y h_ fun (r1 : Bool) h_1 =>
  (bif r then
    (bif r1 then
      R 0 h_1
    else
      R (-1) h_1
    )
  else
    (bif r1 then
      R 1 h_1
    else
      (bif decide (x < y) then
        R (-1) h_1
      else
        (bif decide (x > y) then
          R 1 h_1
        else
          R 0 h_1
        )
      )
    )
  )
theorem E_cmp_Compare_int (x : Int) (y : Int) (h : Heap) (R : Int → Heap → Prop) :
    VF Try.prog [] Try.f121 [.int .i64 x, .int .i64 y] h [.one (.int .i64)] R = S_cmp_Compare_int x y h R := by kernel_rfl
theorem A_cmp_Compare_int {x : Int} {y : Int} {h : Heap} {R : Int → Heap → Prop} (hs : S_cmp_Compare_int x y h R) : C_cmp_Compare_int x y h R :=
  use_ Try.func121 (by kernel_rfl) (E_cmp_Compare_int x y h R) hs

/-- slices.BinarySearchFunc[[]api.Row,api.Row,int] -/
def S_slices_BinarySearchFunc_api_Row_api_Row_int (x : Sl) (target : Int) (h : Heap) (R : Int → Bool → Heap → Prop) : Prop :=
  Let ((x.n : Int) : Int) fun n =>
  Loop [.one (.int .i64), .one (.int .i64)] (fun _ (i : Int) (j : Int) h_ go =>
    (bif decide (i < j) then
      Nneg 1 (
      Let (IntKind.i64.wrap (shiftV .shr .u64 (IntKind.u64.wrap (IntKind.i64.wrap (i + j))) 1) : Int) fun h_1 =>
      Ix x h_1 5 fun e =>
      Ld (.int .i64) h_ e fun (x_Tx : Int) =>
      Ld (.int .i64) h_ (e.add 1) fun (x_Attempt : Int) =>
      Ld (.int .i64) h_ (e.add 2) fun (x_Stamp : Int) =>
      Ld (.int .i64) h_ (e.add 3) fun (x_State : Int) =>
      Ld (.int .i64) h_ (e.add 4) fun (x_Heard : Int) =>
      C_status_Table_find_1 (x_Tx, x_Attempt, x_Stamp, x_State, x_Heard, ()) target h_ fun (r : Int) h_2 =>
      (bif decide (r < 0) then
        Let (IntKind.i64.wrap (h_1 + 1) : Int) fun i1 =>
        go i1 j h_2
      else
        go i h_1 h_2
      )
      )
    else
      (bif decide (i < n) then
        Ix x i 5 fun e1 =>
        Ld (.int .i64) h_ e1 fun (x_Tx1 : Int) =>
        Ld (.int .i64) h_ (e1.add 1) fun (x_Attempt1 : Int) =>
        Ld (.int .i64) h_ (e1.add 2) fun (x_Stamp1 : Int) =>
        Ld (.int .i64) h_ (e1.add 3) fun (x_State1 : Int) =>
        Ld (.int .i64) h_ (e1.add 4) fun (x_Heard1 : Int) =>
        C_status_Table_find_1 (x_Tx1, x_Attempt1, x_Stamp1, x_State1, x_Heard1, ()) target h_ fun (r1 : Int) h_3 =>
        R i (r1 == 0) h_3
      else
        R i false h_
      )
    )
    ) (0, n, ()) h
theorem E_slices_BinarySearchFunc_api_Row_api_Row_int (x : Sl) (target : Int) (h : Heap) (R : Int → Bool → Heap → Prop) :
    VF Try.prog [(60, [(9, .one (.int .i64)), (10, .one (.int .i64))])] Try.f122 [.slice x.a x.n x.c, .int .i64 target, .func (.func 123) #[] #[]] h [.one (.int .i64), .one .bool] R = S_slices_BinarySearchFunc_api_Row_api_Row_int x target h R := by kernel_rfl
theorem A_slices_BinarySearchFunc_api_Row_api_Row_int {x : Sl} {target : Int} {h : Heap} {R : Int → Bool → Heap → Prop} (hs : S_slices_BinarySearchFunc_api_Row_api_Row_int x target h R) : C_slices_BinarySearchFunc_api_Row_api_Row_int x target (.func (.func 123) #[] #[]) h R :=
  use_ Try.func122 (by kernel_rfl) (E_slices_BinarySearchFunc_api_Row_api_Row_int x target h R) hs

/-- (*status.Table).find$1 -/
def S_status_Table_find_1 (r : KL [.int .i64, .int .i64, .int .i64, .int .i64, .int .i64]) (x : Int) (h : Heap) (R : Int → Heap → Prop) : Prop :=
  Alloc h (.cells #[.int .i64 r.1, .int .i64 r.2.1, .int .i64 r.2.2.1, .int .i64 r.2.2.2.1, .int .i64 r.2.2.2.2.1] 81) fun r1 h_ =>
  Ld (.int .i64) h_ r1 fun (Tx : Int) =>
  C_cmp_Compare_int Tx x h_ fun (r2 : Int) h_1 =>
  R r2 h_1
theorem E_status_Table_find_1 (r : KL [.int .i64, .int .i64, .int .i64, .int .i64, .int .i64]) (x : Int) (h : Heap) (R : Int → Heap → Prop) :
    VF Try.prog [] Try.f123 [.agg ⟨KL.vals [.int .i64, .int .i64, .int .i64, .int .i64, .int .i64] r⟩, .int .i64 x] h [.one (.int .i64)] R = S_status_Table_find_1 r x h R := by kernel_rfl
theorem A_status_Table_find_1 {r : KL [.int .i64, .int .i64, .int .i64, .int .i64, .int .i64]} {x : Int} {h : Heap} {R : Int → Heap → Prop} (hs : S_status_Table_find_1 r x h R) : C_status_Table_find_1 r x h R :=
  use_ Try.func123 (by kernel_rfl) (E_status_Table_find_1 r x h R) hs

/-- cmp.isNaN[int] -/
def S_cmp_isNaN_int (x : Int) (h : Heap) (R : Bool → Heap → Prop) : Prop :=
  R (x != x) h
theorem E_cmp_isNaN_int (x : Int) (h : Heap) (R : Bool → Heap → Prop) :
    VF Try.prog [] Try.f127 [.int .i64 x] h [.one .bool] R = S_cmp_isNaN_int x h R := by kernel_rfl
theorem A_cmp_isNaN_int {x : Int} {h : Heap} {R : Bool → Heap → Prop} (hs : S_cmp_isNaN_int x h R) : C_cmp_isNaN_int x h R :=
  use_ Try.func127 (by kernel_rfl) (E_cmp_isNaN_int x h R) hs

/-- slices.Insert[[]api.Row,api.Row] -/
def S_slices_Insert_api_Row_api_Row (s : Sl) (i : Int) (v : Sl) (h : Heap) (R : Sl → Heap → Prop) : Prop :=
  Cut Try.prog 70 s (some (.int .i64 i)) none none fun s1 =>
  Let ((v.n : Int) : Int) fun m =>
  (bif m == 0 then
    R s h
  else
    Let ((s.n : Int) : Int) fun n =>
    (bif i == n then
      App Try.prog 70 70 s v h fun s2 h_ =>
      R s2 h_
    else
      (bif decide ((IntKind.i64.wrap (n + m)) > (s.c : Int)) then
        Cut Try.prog 70 s none (some (.int .i64 i)) none fun s3 =>
        OpT Try.prog (Builtin.append_ #[70, 3] 70 #[.slice s3.a s3.n s3.c, .int .i64 (IntKind.i64.wrap ((IntKind.i64.wrap (n + m)) - i))]) h [.one .sl] fun s4 h_1 =>
        Cut Try.prog 70 s4 (some (.int .i64 i)) none none fun s5 =>
        OpT Try.prog (Builtin.copy_ #[70, 70] 3 #[.slice s5.a s5.n s5.c, .slice v.a v.n v.c]) h_1 [.one (.int .i64)] fun n1 h_2 =>
        Cut Try.prog 70 s4 (some (.int .i64 (IntKind.i64.wrap (i + m)))) none none fun s6 =>
        Cut Try.prog 70 s (some (.int .i64 i)) none none fun s7 =>
        OpT Try.prog (Builtin.copy_ #[70, 70] 3 #[.slice s6.a s6.n s6.c, .slice s7.a s7.n s7.c]) h_2 [.one (.int .i64)] fun n2 h_3 =>
        R s4 h_3
      else
        Cut Try.prog 70 s none (some (.int .i64 (IntKind.i64.wrap (n + m)))) none fun s8 =>
        Cut Try.prog 70 s8 (some (.int .i64 (IntKind.i64.wrap (i + m)))) none none fun s9 =>
        ExtR Try.prog 135 #[.slice v.a v.n v.c, .slice s9.a s9.n s9.c] h [.one .bool] fun (r : Bool) h_4 =>
        (bif !r then
          Cut Try.prog 70 s8 (some (.int .i64 (IntKind.i64.wrap (i + m)))) none none fun s10 =>
          Cut Try.prog 70 s8 (some (.int .i64 i)) none none fun s11 =>
          OpT Try.prog (Builtin.copy_ #[70, 70] 3 #[.slice s10.a s10.n s10.c, .slice s11.a s11.n s11.c]) h_4 [.one (.int .i64)] fun n3 h_5 =>
          Cut Try.prog 70 s8 (some (.int .i64 i)) none none fun s12 =>
          OpT Try.prog (Builtin.copy_ #[70, 70] 3 #[.slice s12.a s12.n s12.c, .slice v.a v.n v.c]) h_5 [.one (.int .i64)] fun n4 h_6 =>
          R s8 h_6
        else
          Cut Try.prog 70 s8 (some (.int .i64 n)) none none fun s13 =>
          OpT Try.prog (Builtin.copy_ #[70, 70] 3 #[.slice s13.a s13.n s13.c, .slice v.a v.n v.c]) h_4 [.one (.int .i64)] fun n5 h_7 =>
          Cut Try.prog 70 s8 (some (.int .i64 i)) none none fun s14 =>
          C_slices_rotateRight_api_Row s14 m h_7 fun h_8 =>
          R s8 h_8
        )
      )
    )
  )
theorem E_slices_Insert_api_Row_api_Row (s : Sl) (i : Int) (v : Sl) (h : Heap) (R : Sl → Heap → Prop) :
    VF Try.prog [] Try.f131 [.slice s.a s.n s.c, .int .i64 i, .slice v.a v.n v.c] h [.one .sl] R = S_slices_Insert_api_Row_api_Row s i v h R := by kernel_rfl
theorem A_slices_Insert_api_Row_api_Row {s : Sl} {i : Int} {v : Sl} {h : Heap} {R : Sl → Heap → Prop} (hs : S_slices_Insert_api_Row_api_Row s i v h R) : C_slices_Insert_api_Row_api_Row s i v h R :=
  use_ Try.func131 (by kernel_rfl) (E_slices_Insert_api_Row_api_Row s i v h R) hs

end Go.Proofs.Ytmpekddpehhdnaa
