/- Printed by a program: what each function asks of the heap, that this is the reading of its code, and what follows for a call. -/
import Derived.Test.YtfafikomhbedbaaSC
import Derived.Test.YtfafikomhbedbaaProg
set_option maxRecDepth 1000000
namespace Go.Proofs.Ytfafikomhbedbaa
open Go

/-- kissinggatelaw09.NetPlays -/
def S_law09_NetPlays (l : Sl) (h : Heap) (R : Bool → Heap → Prop) : Prop :=
  C_law09_fixed  h fun (r : Bool) h_ =>
  (bif !r then
    R false h_
  else
    (bif decide ((l.n : Int) > 200) then
      R true h_
    else
      C_net_New_int  h_ fun (r1 : Option Addr) h_1 =>
      Loop [.one .sl, .one (.int .i64)] (fun _ (row : Sl) (x21 : Int) h_2 go =>
        (bif decide (x21 < (l.n : Int)) then
          Ix l x21 3 fun e =>
          Ld (.int .u8) h_2 e fun (x_Kind : Int) =>
          Ld (.int .i64) h_2 (e.add 1) fun (x_X : Int) =>
          Ld (.int .i64) h_2 (e.add 2) fun (x_I : Int) =>
          Alloc h_2 (.cells #[.int .u8 0, .int .i64 0, .int .i64 0] 63) fun a h_3 =>
          St h_3 a (.int .u8 x_Kind) fun h_4 =>
          St h_4 (a.add 1) (.int .i64 x_X) fun h_5 =>
          St h_5 (a.add 2) (.int .i64 x_I) fun h_6 =>
          Join [.one .bool] (fun _ (in_ : Bool) h_7 =>
            Join [.one (.int .i64)] (fun _ (want : Int) h_8 =>
              Ld (.int .u8) h_8 a fun (Kind : Int) =>
              Nz 4 (
              Join [.one .sl] (fun _ (row1 : Sl) h_9 =>
                C_net_Net_int_All r1 h_9 fun (r2 : Sl) h_10 =>
                (bif (r2.n : Int) != (row1.n : Int) then
                  R false h_10
                else
                  C_net_Net_int_Len r1 h_10 fun (r3 : Int) h_11 =>
                  (bif r3 != (row1.n : Int) then
                    R false h_11
                  else
                    Loop [.one (.int .i64)] (fun _ (x126 : Int) h_12 go1 =>
                      (bif decide (x126 < (row1.n : Int)) then
                        Ix r2 x126 1 fun e1 =>
                        Ld (.int .i64) h_12 e1 fun (x : Int) =>
                        Ix row1 x126 1 fun e2 =>
                        Ld (.int .i64) h_12 e2 fun (x1 : Int) =>
                        (bif x != x1 then
                          R false h_12
                        else
                          go1 (IntKind.i64.wrap (x126 + 1)) h_12
                        )
                      else
                        go row1 (IntKind.i64.wrap (x21 + 1)) h_12
                      )
                      ) (0, ()) h_11
                  )
                )
                ) fun J2 =>
              (bif (divV .rem .u8 Kind 4) == 0 then
                Ld (.int .i64) h_8 (a.add 1) fun (X_ : Int) =>
                C_net_Net_int_Send r1 X_ h_8 fun (r4 : Int) h_13 =>
                (bif r4 != 0 then
                  R false h_13
                else
                  Ld (.int .i64) h_13 (a.add 1) fun (X_1 : Int) =>
                  Alloc h_13 (.cells #[.int .i64 X_1] 3) fun b h_14 =>
                  App Try.prog 61 61 row ⟨some b, 1, 1⟩ h_14 fun s h_15 =>
                  J2 s h_15
                )
              else
                (bif (divV .rem .u8 Kind 4) == 1 then
                  Ld (.int .i64) h_8 (a.add 2) fun (I : Int) =>
                  C_net_Net_int_Take r1 I h_8 fun (r5 : Int) (r6 : Int) h_16 =>
                  (bif r6 != want then
                    R false h_16
                  else
                    (bif in_ then
                      Ld (.int .i64) h_16 (a.add 2) fun (I1 : Int) =>
                      Ix row I1 1 fun e3 =>
                      Ld (.int .i64) h_16 e3 fun (x2 : Int) =>
                      (bif r5 != x2 then
                        R false h_16
                      else
                        (bif in_ then
                          Ld (.int .i64) h_16 (a.add 2) fun (I2 : Int) =>
                          Cut Try.prog 61 row none (some (.int .i64 I2)) none fun s1 =>
                          Ld (.int .i64) h_16 (a.add 2) fun (I3 : Int) =>
                          Cut Try.prog 61 row (some (.int .i64 (IntKind.i64.wrap (I3 + 1)))) none none fun s2 =>
                          Alloc h_16 (.cells #[] 3) fun b1 h_17 =>
                          (Ld (.int .i64) h_17 (a.add 2) fun (I4 : Int) => (.int .i64 I4 : Value) = .int .i64 I2) ∧
                          (Ld (.int .i64) h_17 (a.add 2) fun (I5 : Int) => (.int .i64 I5 : Value) = .int .i64 I3) ∧
                          App Try.prog 61 61 ⟨some b1, 0, 0⟩ s1 h_17 fun s3 h_18 =>
                          (Ld (.int .i64) h_18 (a.add 2) fun (I6 : Int) => (.int .i64 I6 : Value) = .int .i64 I3) ∧
                          App Try.prog 61 61 s3 s2 h_18 fun s4 h_19 =>
                          J2 s4 h_19
                        else
                          J2 row h_16
                        )
                      )
                    else
                      (bif in_ then
                        Ld (.int .i64) h_16 (a.add 2) fun (I7 : Int) =>
                        Cut Try.prog 61 row none (some (.int .i64 I7)) none fun s5 =>
                        Ld (.int .i64) h_16 (a.add 2) fun (I8 : Int) =>
                        Cut Try.prog 61 row (some (.int .i64 (IntKind.i64.wrap (I8 + 1)))) none none fun s6 =>
                        Alloc h_16 (.cells #[] 3) fun b2 h_20 =>
                        (Ld (.int .i64) h_20 (a.add 2) fun (I9 : Int) => (.int .i64 I9 : Value) = .int .i64 I7) ∧
                        (Ld (.int .i64) h_20 (a.add 2) fun (I10 : Int) => (.int .i64 I10 : Value) = .int .i64 I8) ∧
                        App Try.prog 61 61 ⟨some b2, 0, 0⟩ s5 h_20 fun s7 h_21 =>
                        (Ld (.int .i64) h_21 (a.add 2) fun (I11 : Int) => (.int .i64 I11 : Value) = .int .i64 I8) ∧
                        App Try.prog 61 61 s7 s6 h_21 fun s8 h_22 =>
                        J2 s8 h_22
                      else
                        J2 row h_16
                      )
                    )
                  )
                else
                  (bif (divV .rem .u8 Kind 4) == 2 then
                    Ld (.int .i64) h_8 (a.add 2) fun (I12 : Int) =>
                    C_net_Net_int_Double r1 I12 h_8 fun (r7 : Int) h_23 =>
                    (bif r7 != want then
                      R false h_23
                    else
                      (bif in_ then
                        Ld (.int .i64) h_23 (a.add 2) fun (I13 : Int) =>
                        Ix row I13 1 fun e4 =>
                        Ld (.int .i64) h_23 e4 fun (x3 : Int) =>
                        Alloc h_23 (.cells #[.int .i64 x3] 3) fun b3 h_24 =>
                        App Try.prog 61 61 row ⟨some b3, 1, 1⟩ h_24 fun s9 h_25 =>
                        J2 s9 h_25
                      else
                        J2 row h_23
                      )
                    )
                  else
                    (bif (divV .rem .u8 Kind 4) == 3 then
                      C_net_Net_int_Clear r1 h_8 fun h_26 =>
                      J2 ⟨none, 0, 0⟩ h_26
                    else
                      J2 row h_8
                    )
                  )
                )
              )
              )
              ) fun J1 =>
            (bif !in_ then
              J1 6 h_7
            else
              J1 0 h_7
            )
            ) fun J =>
          Ld (.int .i64) h_6 (a.add 2) fun (I14 : Int) =>
          (bif decide (I14 ≥ 0) then
            Ld (.int .i64) h_6 (a.add 2) fun (I15 : Int) =>
            Let (decide (I15 < (row.n : Int)) : Bool) fun in_1 =>
            J in_1 h_6
          else
            J false h_6
          )
        else
          R true h_2
        )
        ) (⟨none, 0, 0⟩, 0, ()) h_1
    )
  )
theorem E_law09_NetPlays (l : Sl) (h : Heap) (R : Bool → Heap → Prop) :
    VF Try.prog [(506, [(4, .one .sl), (21, .one (.int .i64))]), (64818, [(7, .one .bool)]), (518557, [(8, .one (.int .i64))]), (1037117, [(4, .one .sl)]), (8296958, [(126, .one (.int .i64))])] Try.f8 [.slice l.a l.n l.c] h [.one .bool] R = S_law09_NetPlays l h R := by kernel_rfl
theorem A_law09_NetPlays {l : Sl} {h : Heap} {R : Bool → Heap → Prop} (hs : S_law09_NetPlays l h R) : C_law09_NetPlays l h R :=
  VF_sound (an := [(506, [(4, .one .sl), (21, .one (.int .i64))]), (64818, [(7, .one .bool)]), (518557, [(8, .one (.int .i64))]), (1037117, [(4, .one .sl)]), (8296958, [(126, .one (.int .i64))])]) (fn := Try.f8) (args := [.slice l.a l.n l.c]) mixed_ Try.func8 (by kernel_rfl) (cast (E_law09_NetPlays l h R).symm hs)

/-- kissinggatelaw09.NetFull -/
def S_law09_NetFull (more : Int) (h : Heap) (R : Bool → Heap → Prop) : Prop :=
  C_law09_fixed  h fun (r : Bool) h_ =>
  (bif !r then
    R false h_
  else
    C_net_New_int  h_ fun (r1 : Option Addr) h_1 =>
    Let (IntKind.i64.wrap (400 + (IntKind.i64.wrap more)) : Int) fun k =>
    Loop [.one (.int .i64)] (fun _ (x16 : Int) h_2 go =>
      (bif decide (x16 < k) then
        C_net_Net_int_Send r1 x16 h_2 fun (r2 : Int) h_3 =>
        (bif !((r2 == 0) == (decide (x16 < 512))) then
          R false h_3
        else
          (bif r2 != 0 then
            (bif r2 != 7 then
              R false h_3
            else
              go (IntKind.i64.wrap (x16 + 1)) h_3
            )
          else
            go (IntKind.i64.wrap (x16 + 1)) h_3
          )
        )
      else
        C_net_Net_int_Len r1 h_2 fun (r3 : Int) h_4 =>
        (bif r3 != (if 512 < k then 512 else k) then
          R false h_4
        else
          C_net_Net_int_Double r1 0 h_4 fun (r4 : Int) h_5 =>
          (bif !((r4 == 7) == (decide (k ≥ 512))) then
            R false h_5
          else
            C_net_Net_int_Take r1 0 h_5 fun (r5 : Int) (r6 : Int) h_6 =>
            (bif r6 == 0 then
              (bif r5 == 0 then
                C_net_Net_int_Send r1 7 h_6 fun (r7 : Int) h_7 =>
                R (r7 == 0) h_7
              else
                R false h_6
              )
            else
              R false h_6
            )
          )
        )
      )
      ) (0, ()) h_1
  )
theorem E_law09_NetFull (more : Int) (h : Heap) (R : Bool → Heap → Prop) :
    VF Try.prog [(250, [(16, .one (.int .i64))])] Try.f9 [.int .u8 more] h [.one .bool] R = S_law09_NetFull more h R := by kernel_rfl
theorem A_law09_NetFull {more : Int} {h : Heap} {R : Bool → Heap → Prop} (hs : S_law09_NetFull more h R) : C_law09_NetFull more h R :=
  VF_sound (an := [(250, [(16, .one (.int .i64))])]) (fn := Try.f9) (args := [.int .u8 more]) mixed_ Try.func9 (by kernel_rfl) (cast (E_law09_NetFull more h R).symm hs)

/-- kissinggatelaw09.fixed -/
def S_law09_fixed  (h : Heap) (R : Bool → Heap → Prop) : Prop :=
  C_net_New_string  h fun (r : Option Addr) h_ =>
  C_net_Net_string_Send r (⟨#[97]⟩ : ByteArray) h_ fun (r1 : Int) h_1 =>
  C_net_Net_string_Send r (⟨#[98]⟩ : ByteArray) h_1 fun (r2 : Int) h_2 =>
  C_net_Net_string_Double r 0 h_2 fun (r3 : Int) h_3 =>
  C_net_Net_string_Take r 1 h_3 fun (r4 : ByteArray) (r5 : Int) h_4 =>
  C_net_Net_string_All r h_4 fun (r6 : Sl) h_5 =>
  C_net_Net_string_Take r 9 h_5 fun (r7 : ByteArray) (r8 : Int) h_6 =>
  C_net_Net_int_Take none 0 h_6 fun (r9 : Int) (r10 : Int) h_7 =>
  C_net_Net_int_Clear none h_7 fun h_8 =>
  (bif r1 == 0 then
    (bif r2 == 0 then
      (bif r3 == 0 then
        (bif r4.toList == (⟨#[98]⟩ : ByteArray).toList then
          (bif r5 == 0 then
            (bif (r6.n : Int) == 2 then
              Ix r6 1 1 fun e =>
              Ld .str h_8 e fun (x : ByteArray) =>
              (bif x.toList == (⟨#[97]⟩ : ByteArray).toList then
                (bif r8 == 6 then
                  (bif r10 == 1 then
                    C_net_Net_int_Send none 1 h_8 fun (r11 : Int) h_9 =>
                    (bif r11 == 1 then
                      C_net_Net_int_Len none h_9 fun (r12 : Int) h_10 =>
                      C_net_Net_int_All none h_10 fun (r13 : Sl) h_11 =>
                      R ((IntKind.i64.wrap (r12 + (r13.n : Int))) == 0) h_11
                    else
                      R false h_9
                    )
                  else
                    R false h_8
                  )
                else
                  R false h_8
                )
              else
                R false h_8
              )
            else
              R false h_8
            )
          else
            R false h_8
          )
        else
          R false h_8
        )
      else
        R false h_8
      )
    else
      R false h_8
    )
  else
    R false h_8
  )
theorem E_law09_fixed  (h : Heap) (R : Bool → Heap → Prop) :
    VF Try.prog [] Try.f42 [] h [.one .bool] R = S_law09_fixed  h R := by kernel_rfl
theorem A_law09_fixed  {h : Heap} {R : Bool → Heap → Prop} (hs : S_law09_fixed  h R) : C_law09_fixed  h R :=
  VF_sound (an := []) (fn := Try.f42) (args := []) mixed_ Try.func42 (by kernel_rfl) (cast (E_law09_fixed  h R).symm hs)

/-- net.New[int] -/
def S_net_New_int  (h : Heap) (R : Option Addr → Heap → Prop) : Prop :=
  Alloc h (.cells #[.slice none 0 0] 108) fun p h_ =>
  R (some p) h_
theorem E_net_New_int  (h : Heap) (R : Option Addr → Heap → Prop) :
    VF Try.prog [] Try.f43 [] h [.one .ptr] R = S_net_New_int  h R := by kernel_rfl
theorem A_net_New_int  {h : Heap} {R : Option Addr → Heap → Prop} (hs : S_net_New_int  h R) : C_net_New_int  h R :=
  VF_sound (an := []) (fn := Try.f43) (args := []) mixed_ Try.func43 (by kernel_rfl) (cast (E_net_New_int  h R).symm hs)

/-- (*net.Net[int]).Send -/
def S_net_Net_int_Send (n : Option Addr) (x : Int) (h : Heap) (R : Int → Heap → Prop) : Prop :=
  (bif n.isNone then
    R 1 h
  else
    Nn n fun p =>
    Ld .sl h p fun (l : Sl) =>
    (bif decide ((l.n : Int) ≥ 512) then
      R 7 h
    else
      Nn n fun p1 =>
      Ld .sl h p1 fun (l1 : Sl) =>
      Alloc h (.cells #[.int .i64 x] 3) fun b h_ =>
      App Try.prog 61 61 l1 ⟨some b, 1, 1⟩ h_ fun s h_1 =>
      Nn n fun p2 =>
      St h_1 p2 (.slice s.a s.n s.c) fun h_2 =>
      R 0 h_2
    )
  )
theorem E_net_Net_int_Send (n : Option Addr) (x : Int) (h : Heap) (R : Int → Heap → Prop) :
    VF Try.prog [] Try.f44 [.pointer n, .int .i64 x] h [.one (.int .i64)] R = S_net_Net_int_Send n x h R := by kernel_rfl
theorem A_net_Net_int_Send {n : Option Addr} {x : Int} {h : Heap} {R : Int → Heap → Prop} (hs : S_net_Net_int_Send n x h R) : C_net_Net_int_Send n x h R :=
  VF_sound (an := []) (fn := Try.f44) (args := [.pointer n, .int .i64 x]) mixed_ Try.func44 (by kernel_rfl) (cast (E_net_Net_int_Send n x h R).symm hs)

/-- (*net.Net[int]).Take -/
def S_net_Net_int_Take (n : Option Addr) (i : Int) (h : Heap) (R : Int → Int → Heap → Prop) : Prop :=
  C_net_Net_int_at n i h fun (r : Int) h_ =>
  (bif r != 0 then
    R 0 r h_
  else
    Nn n fun p =>
    Ld .sl h_ p fun (l : Sl) =>
    Ix l i 1 fun e =>
    Ld (.int .i64) h_ e fun (x : Int) =>
    Nn n fun p1 =>
    Ld .sl h_ p1 fun (l1 : Sl) =>
    C_slices_Delete_int_int l1 i (IntKind.i64.wrap (i + 1)) h_ fun (r1 : Sl) h_1 =>
    Nn n fun p2 =>
    St h_1 p2 (.slice r1.a r1.n r1.c) fun h_2 =>
    R x 0 h_2
  )
theorem E_net_Net_int_Take (n : Option Addr) (i : Int) (h : Heap) (R : Int → Int → Heap → Prop) :
    VF Try.prog [] Try.f45 [.pointer n, .int .i64 i] h [.one (.int .i64), .one (.int .i64)] R = S_net_Net_int_Take n i h R := by kernel_rfl
theorem A_net_Net_int_Take {n : Option Addr} {i : Int} {h : Heap} {R : Int → Int → Heap → Prop} (hs : S_net_Net_int_Take n i h R) : C_net_Net_int_Take n i h R :=
  VF_sound (an := []) (fn := Try.f45) (args := [.pointer n, .int .i64 i]) mixed_ Try.func45 (by kernel_rfl) (cast (E_net_Net_int_Take n i h R).symm hs)

/-- (*net.Net[int]).Double -/
def S_net_Net_int_Double (n : Option Addr) (i : Int) (h : Heap) (R : Int → Heap → Prop) : Prop :=
  C_net_Net_int_at n i h fun (r : Int) h_ =>
  (bif r != 0 then
    R r h_
  else
    Nn n fun p =>
    Ld .sl h_ p fun (l : Sl) =>
    Ix l i 1 fun e =>
    Ld (.int .i64) h_ e fun (x : Int) =>
    C_net_Net_int_Send n x h_ fun (r1 : Int) h_1 =>
    R r1 h_1
  )
theorem E_net_Net_int_Double (n : Option Addr) (i : Int) (h : Heap) (R : Int → Heap → Prop) :
    VF Try.prog [] Try.f46 [.pointer n, .int .i64 i] h [.one (.int .i64)] R = S_net_Net_int_Double n i h R := by kernel_rfl
theorem A_net_Net_int_Double {n : Option Addr} {i : Int} {h : Heap} {R : Int → Heap → Prop} (hs : S_net_Net_int_Double n i h R) : C_net_Net_int_Double n i h R :=
  VF_sound (an := []) (fn := Try.f46) (args := [.pointer n, .int .i64 i]) mixed_ Try.func46 (by kernel_rfl) (cast (E_net_Net_int_Double n i h R).symm hs)

/-- (*net.Net[int]).Clear -/
def S_net_Net_int_Clear (n : Option Addr) (h : Heap) (R : Heap → Prop) : Prop :=
  (bif !n.isNone then
    Nn n fun p =>
    Ld .sl h p fun (l : Sl) =>
    OpT Try.prog (Builtin.clear_ #[61] 0 #[.slice l.a l.n l.c]) h [] fun h_ =>
    Nn n fun p1 =>
    St h_ p1 (.slice none 0 0) fun h_1 =>
    R h_1
  else
    R h
  )
theorem E_net_Net_int_Clear (n : Option Addr) (h : Heap) (R : Heap → Prop) :
    VF Try.prog [] Try.f47 [.pointer n] h [] R = S_net_Net_int_Clear n h R := by kernel_rfl
theorem A_net_Net_int_Clear {n : Option Addr} {h : Heap} {R : Heap → Prop} (hs : S_net_Net_int_Clear n h R) : C_net_Net_int_Clear n h R :=
  VF_sound (an := []) (fn := Try.f47) (args := [.pointer n]) mixed_ Try.func47 (by kernel_rfl) (cast (E_net_Net_int_Clear n h R).symm hs)

/-- (*net.Net[int]).All -/
def S_net_Net_int_All (n : Option Addr) (h : Heap) (R : Sl → Heap → Prop) : Prop :=
  (bif n.isNone then
    R ⟨none, 0, 0⟩ h
  else
    Nn n fun p =>
    Ld .sl h p fun (l : Sl) =>
    C_slices_Clone_int_int l h fun (r : Sl) h_ =>
    R r h_
  )
theorem E_net_Net_int_All (n : Option Addr) (h : Heap) (R : Sl → Heap → Prop) :
    VF Try.prog [] Try.f48 [.pointer n] h [.one .sl] R = S_net_Net_int_All n h R := by kernel_rfl
theorem A_net_Net_int_All {n : Option Addr} {h : Heap} {R : Sl → Heap → Prop} (hs : S_net_Net_int_All n h R) : C_net_Net_int_All n h R :=
  VF_sound (an := []) (fn := Try.f48) (args := [.pointer n]) mixed_ Try.func48 (by kernel_rfl) (cast (E_net_Net_int_All n h R).symm hs)

/-- (*net.Net[int]).Len -/
def S_net_Net_int_Len (n : Option Addr) (h : Heap) (R : Int → Heap → Prop) : Prop :=
  (bif n.isNone then
    R 0 h
  else
    Nn n fun p =>
    Ld .sl h p fun (l : Sl) =>
    R (l.n : Int) h
  )
theorem E_net_Net_int_Len (n : Option Addr) (h : Heap) (R : Int → Heap → Prop) :
    VF Try.prog [] Try.f49 [.pointer n] h [.one (.int .i64)] R = S_net_Net_int_Len n h R := by kernel_rfl
theorem A_net_Net_int_Len {n : Option Addr} {h : Heap} {R : Int → Heap → Prop} (hs : S_net_Net_int_Len n h R) : C_net_Net_int_Len n h R :=
  VF_sound (an := []) (fn := Try.f49) (args := [.pointer n]) mixed_ Try.func49 (by kernel_rfl) (cast (E_net_Net_int_Len n h R).symm hs)

/-- net.New[string] -/
def S_net_New_string  (h : Heap) (R : Option Addr → Heap → Prop) : Prop :=
  Alloc h (.cells #[.slice none 0 0] 135) fun p h_ =>
  R (some p) h_
theorem E_net_New_string  (h : Heap) (R : Option Addr → Heap → Prop) :
    VF Try.prog [] Try.f70 [] h [.one .ptr] R = S_net_New_string  h R := by kernel_rfl
theorem A_net_New_string  {h : Heap} {R : Option Addr → Heap → Prop} (hs : S_net_New_string  h R) : C_net_New_string  h R :=
  VF_sound (an := []) (fn := Try.f70) (args := []) mixed_ Try.func70 (by kernel_rfl) (cast (E_net_New_string  h R).symm hs)

/-- (*net.Net[string]).Send -/
def S_net_Net_string_Send (n : Option Addr) (x : ByteArray) (h : Heap) (R : Int → Heap → Prop) : Prop :=
  (bif n.isNone then
    R 1 h
  else
    Nn n fun p =>
    Ld .sl h p fun (l : Sl) =>
    (bif decide ((l.n : Int) ≥ 512) then
      R 7 h
    else
      Nn n fun p1 =>
      Ld .sl h p1 fun (l1 : Sl) =>
      Alloc h (.cells #[.string x] 9) fun b h_ =>
      App Try.prog 105 105 l1 ⟨some b, 1, 1⟩ h_ fun s h_1 =>
      Nn n fun p2 =>
      St h_1 p2 (.slice s.a s.n s.c) fun h_2 =>
      R 0 h_2
    )
  )
theorem E_net_Net_string_Send (n : Option Addr) (x : ByteArray) (h : Heap) (R : Int → Heap → Prop) :
    VF Try.prog [] Try.f71 [.pointer n, .string x] h [.one (.int .i64)] R = S_net_Net_string_Send n x h R := by kernel_rfl
theorem A_net_Net_string_Send {n : Option Addr} {x : ByteArray} {h : Heap} {R : Int → Heap → Prop} (hs : S_net_Net_string_Send n x h R) : C_net_Net_string_Send n x h R :=
  VF_sound (an := []) (fn := Try.f71) (args := [.pointer n, .string x]) mixed_ Try.func71 (by kernel_rfl) (cast (E_net_Net_string_Send n x h R).symm hs)

/-- (*net.Net[string]).Double -/
def S_net_Net_string_Double (n : Option Addr) (i : Int) (h : Heap) (R : Int → Heap → Prop) : Prop :=
  C_net_Net_string_at n i h fun (r : Int) h_ =>
  (bif r != 0 then
    R r h_
  else
    Nn n fun p =>
    Ld .sl h_ p fun (l : Sl) =>
    Ix l i 1 fun e =>
    Ld .str h_ e fun (x : ByteArray) =>
    C_net_Net_string_Send n x h_ fun (r1 : Int) h_1 =>
    R r1 h_1
  )
theorem E_net_Net_string_Double (n : Option Addr) (i : Int) (h : Heap) (R : Int → Heap → Prop) :
    VF Try.prog [] Try.f72 [.pointer n, .int .i64 i] h [.one (.int .i64)] R = S_net_Net_string_Double n i h R := by kernel_rfl
theorem A_net_Net_string_Double {n : Option Addr} {i : Int} {h : Heap} {R : Int → Heap → Prop} (hs : S_net_Net_string_Double n i h R) : C_net_Net_string_Double n i h R :=
  VF_sound (an := []) (fn := Try.f72) (args := [.pointer n, .int .i64 i]) mixed_ Try.func72 (by kernel_rfl) (cast (E_net_Net_string_Double n i h R).symm hs)

/-- (*net.Net[string]).Take -/
def S_net_Net_string_Take (n : Option Addr) (i : Int) (h : Heap) (R : ByteArray → Int → Heap → Prop) : Prop :=
  C_net_Net_string_at n i h fun (r : Int) h_ =>
  (bif r != 0 then
    R (⟨#[]⟩ : ByteArray) r h_
  else
    Nn n fun p =>
    Ld .sl h_ p fun (l : Sl) =>
    Ix l i 1 fun e =>
    Ld .str h_ e fun (x : ByteArray) =>
    Nn n fun p1 =>
    Ld .sl h_ p1 fun (l1 : Sl) =>
    C_slices_Delete_string_string l1 i (IntKind.i64.wrap (i + 1)) h_ fun (r1 : Sl) h_1 =>
    Nn n fun p2 =>
    St h_1 p2 (.slice r1.a r1.n r1.c) fun h_2 =>
    R x 0 h_2
  )
theorem E_net_Net_string_Take (n : Option Addr) (i : Int) (h : Heap) (R : ByteArray → Int → Heap → Prop) :
    VF Try.prog [] Try.f73 [.pointer n, .int .i64 i] h [.one .str, .one (.int .i64)] R = S_net_Net_string_Take n i h R := by kernel_rfl
theorem A_net_Net_string_Take {n : Option Addr} {i : Int} {h : Heap} {R : ByteArray → Int → Heap → Prop} (hs : S_net_Net_string_Take n i h R) : C_net_Net_string_Take n i h R :=
  VF_sound (an := []) (fn := Try.f73) (args := [.pointer n, .int .i64 i]) mixed_ Try.func73 (by kernel_rfl) (cast (E_net_Net_string_Take n i h R).symm hs)

/-- (*net.Net[string]).All -/
def S_net_Net_string_All (n : Option Addr) (h : Heap) (R : Sl → Heap → Prop) : Prop :=
  (bif n.isNone then
    R ⟨none, 0, 0⟩ h
  else
    Nn n fun p =>
    Ld .sl h p fun (l : Sl) =>
    C_slices_Clone_string_string l h fun (r : Sl) h_ =>
    R r h_
  )
theorem E_net_Net_string_All (n : Option Addr) (h : Heap) (R : Sl → Heap → Prop) :
    VF Try.prog [] Try.f74 [.pointer n] h [.one .sl] R = S_net_Net_string_All n h R := by kernel_rfl
theorem A_net_Net_string_All {n : Option Addr} {h : Heap} {R : Sl → Heap → Prop} (hs : S_net_Net_string_All n h R) : C_net_Net_string_All n h R :=
  VF_sound (an := []) (fn := Try.f74) (args := [.pointer n]) mixed_ Try.func74 (by kernel_rfl) (cast (E_net_Net_string_All n h R).symm hs)

/-- (*net.Net[int]).at -/
def S_net_Net_int_at (n : Option Addr) (i : Int) (h : Heap) (R : Int → Heap → Prop) : Prop :=
  (bif n.isNone then
    R 1 h
  else
    (bif decide (i < 0) then
      R 6 h
    else
      Nn n fun p =>
      Ld .sl h p fun (l : Sl) =>
      (bif decide (i ≥ (l.n : Int)) then
        R 6 h
      else
        R 0 h
      )
    )
  )
theorem E_net_Net_int_at (n : Option Addr) (i : Int) (h : Heap) (R : Int → Heap → Prop) :
    VF Try.prog [] Try.f75 [.pointer n, .int .i64 i] h [.one (.int .i64)] R = S_net_Net_int_at n i h R := by kernel_rfl
theorem A_net_Net_int_at {n : Option Addr} {i : Int} {h : Heap} {R : Int → Heap → Prop} (hs : S_net_Net_int_at n i h R) : C_net_Net_int_at n i h R :=
  VF_sound (an := []) (fn := Try.f75) (args := [.pointer n, .int .i64 i]) mixed_ Try.func75 (by kernel_rfl) (cast (E_net_Net_int_at n i h R).symm hs)

/-- slices.Delete[[]int,int] -/
def S_slices_Delete_int_int (s : Sl) (i : Int) (j : Int) (h : Heap) (R : Sl → Heap → Prop) : Prop :=
  Cut Try.prog 61 s (some (.int .i64 i)) (some (.int .i64 j)) (some (.int .i64 (s.n : Int))) fun s1 =>
  (bif i == j then
    R s h
  else
    Let ((s.n : Int) : Int) fun oldlen =>
    Cut Try.prog 61 s none (some (.int .i64 i)) none fun s2 =>
    Cut Try.prog 61 s (some (.int .i64 j)) none none fun s3 =>
    App Try.prog 61 61 s2 s3 h fun s4 h_ =>
    Cut Try.prog 61 s4 (some (.int .i64 (s4.n : Int))) (some (.int .i64 oldlen)) none fun s5 =>
    OpT Try.prog (Builtin.clear_ #[61] 0 #[.slice s5.a s5.n s5.c]) h_ [] fun h_1 =>
    R s4 h_1
  )
theorem E_slices_Delete_int_int (s : Sl) (i : Int) (j : Int) (h : Heap) (R : Sl → Heap → Prop) :
    VF Try.prog [] Try.f76 [.slice s.a s.n s.c, .int .i64 i, .int .i64 j] h [.one .sl] R = S_slices_Delete_int_int s i j h R := by kernel_rfl
theorem A_slices_Delete_int_int {s : Sl} {i : Int} {j : Int} {h : Heap} {R : Sl → Heap → Prop} (hs : S_slices_Delete_int_int s i j h R) : C_slices_Delete_int_int s i j h R :=
  VF_sound (an := []) (fn := Try.f76) (args := [.slice s.a s.n s.c, .int .i64 i, .int .i64 j]) mixed_ Try.func76 (by kernel_rfl) (cast (E_slices_Delete_int_int s i j h R).symm hs)

/-- slices.Clone[[]int,int] -/
def S_slices_Clone_int_int (s : Sl) (h : Heap) (R : Sl → Heap → Prop) : Prop :=
  (bif s.a.isNone then
    R ⟨none, 0, 0⟩ h
  else
    Alloc h (.cells #[] 3) fun b h_ =>
    App Try.prog 61 61 ⟨some b, 0, 0⟩ s h_ fun s1 h_1 =>
    R s1 h_1
  )
theorem E_slices_Clone_int_int (s : Sl) (h : Heap) (R : Sl → Heap → Prop) :
    VF Try.prog [] Try.f77 [.slice s.a s.n s.c] h [.one .sl] R = S_slices_Clone_int_int s h R := by kernel_rfl
theorem A_slices_Clone_int_int {s : Sl} {h : Heap} {R : Sl → Heap → Prop} (hs : S_slices_Clone_int_int s h R) : C_slices_Clone_int_int s h R :=
  VF_sound (an := []) (fn := Try.f77) (args := [.slice s.a s.n s.c]) mixed_ Try.func77 (by kernel_rfl) (cast (E_slices_Clone_int_int s h R).symm hs)

/-- (*net.Net[string]).at -/
def S_net_Net_string_at (n : Option Addr) (i : Int) (h : Heap) (R : Int → Heap → Prop) : Prop :=
  (bif n.isNone then
    R 1 h
  else
    (bif decide (i < 0) then
      R 6 h
    else
      Nn n fun p =>
      Ld .sl h p fun (l : Sl) =>
      (bif decide (i ≥ (l.n : Int)) then
        R 6 h
      else
        R 0 h
      )
    )
  )
theorem E_net_Net_string_at (n : Option Addr) (i : Int) (h : Heap) (R : Int → Heap → Prop) :
    VF Try.prog [] Try.f87 [.pointer n, .int .i64 i] h [.one (.int .i64)] R = S_net_Net_string_at n i h R := by kernel_rfl
theorem A_net_Net_string_at {n : Option Addr} {i : Int} {h : Heap} {R : Int → Heap → Prop} (hs : S_net_Net_string_at n i h R) : C_net_Net_string_at n i h R :=
  VF_sound (an := []) (fn := Try.f87) (args := [.pointer n, .int .i64 i]) mixed_ Try.func87 (by kernel_rfl) (cast (E_net_Net_string_at n i h R).symm hs)

/-- slices.Delete[[]string,string] -/
def S_slices_Delete_string_string (s : Sl) (i : Int) (j : Int) (h : Heap) (R : Sl → Heap → Prop) : Prop :=
  Cut Try.prog 105 s (some (.int .i64 i)) (some (.int .i64 j)) (some (.int .i64 (s.n : Int))) fun s1 =>
  (bif i == j then
    R s h
  else
    Let ((s.n : Int) : Int) fun oldlen =>
    Cut Try.prog 105 s none (some (.int .i64 i)) none fun s2 =>
    Cut Try.prog 105 s (some (.int .i64 j)) none none fun s3 =>
    App Try.prog 105 105 s2 s3 h fun s4 h_ =>
    Cut Try.prog 105 s4 (some (.int .i64 (s4.n : Int))) (some (.int .i64 oldlen)) none fun s5 =>
    OpT Try.prog (Builtin.clear_ #[105] 0 #[.slice s5.a s5.n s5.c]) h_ [] fun h_1 =>
    R s4 h_1
  )
theorem E_slices_Delete_string_string (s : Sl) (i : Int) (j : Int) (h : Heap) (R : Sl → Heap → Prop) :
    VF Try.prog [] Try.f88 [.slice s.a s.n s.c, .int .i64 i, .int .i64 j] h [.one .sl] R = S_slices_Delete_string_string s i j h R := by kernel_rfl
theorem A_slices_Delete_string_string {s : Sl} {i : Int} {j : Int} {h : Heap} {R : Sl → Heap → Prop} (hs : S_slices_Delete_string_string s i j h R) : C_slices_Delete_string_string s i j h R :=
  VF_sound (an := []) (fn := Try.f88) (args := [.slice s.a s.n s.c, .int .i64 i, .int .i64 j]) mixed_ Try.func88 (by kernel_rfl) (cast (E_slices_Delete_string_string s i j h R).symm hs)

/-- slices.Clone[[]string,string] -/
def S_slices_Clone_string_string (s : Sl) (h : Heap) (R : Sl → Heap → Prop) : Prop :=
  (bif s.a.isNone then
    R ⟨none, 0, 0⟩ h
  else
    Alloc h (.cells #[] 9) fun b h_ =>
    App Try.prog 105 105 ⟨some b, 0, 0⟩ s h_ fun s1 h_1 =>
    R s1 h_1
  )
theorem E_slices_Clone_string_string (s : Sl) (h : Heap) (R : Sl → Heap → Prop) :
    VF Try.prog [] Try.f89 [.slice s.a s.n s.c] h [.one .sl] R = S_slices_Clone_string_string s h R := by kernel_rfl
theorem A_slices_Clone_string_string {s : Sl} {h : Heap} {R : Sl → Heap → Prop} (hs : S_slices_Clone_string_string s h R) : C_slices_Clone_string_string s h R :=
  VF_sound (an := []) (fn := Try.f89) (args := [.slice s.a s.n s.c]) mixed_ Try.func89 (by kernel_rfl) (cast (E_slices_Clone_string_string s h R).symm hs)

end Go.Proofs.Ytfafikomhbedbaa
