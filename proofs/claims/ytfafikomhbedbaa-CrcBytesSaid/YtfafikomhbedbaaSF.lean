/- Printed by a program: what each function asks of the heap, that this is the reading of its code, and what follows for a call. -/
import Derived.Test.YtfafikomhbedbaaSC
import Derived.Test.YtfafikomhbedbaaProg
set_option maxRecDepth 1000000
namespace Go.Proofs.Ytfafikomhbedbaa
open Go

/-- kissinggatelaw02.CrcSums -/
def S_law02_CrcSums (l : Sl) (h : Heap) (R : Bool → Heap → Prop) : Prop :=
  C_law02_fixed  h fun (r : Bool) h_ =>
  (bif !r then
    R false h_
  else
    Loop [.one (.int .i64), .one (.int .i64)] (fun _ (n : Int) (x15 : Int) h_1 go =>
      (bif decide (x15 < (l.n : Int)) then
        Ix l x15 1 fun e =>
        Ld .sl h_1 e fun (x : Sl) =>
        Let (IntKind.i64.wrap (n + (x.n : Int)) : Int) fun n1 =>
        (bif decide (n1 > 600) then
          R true h_1
        else
          go n1 (IntKind.i64.wrap (x15 + 1)) h_1
        )
      else
        (bif decide ((l.n : Int) > 100) then
          R true h_1
        else
          C_crc_New  h_1 fun (r1 : Option Addr) h_2 =>
          Loop [.one .sl, .one (.int .u32), .one (.int .i64)] (fun _ (all : Sl) (s : Int) (x32 : Int) h_3 go1 =>
            (bif decide (x32 < (l.n : Int)) then
              Ix l x32 1 fun e1 =>
              Ld .sl h_3 e1 fun (x1 : Sl) =>
              App Try.prog 23 23 all x1 h_3 fun s1 h_4 =>
              C_crc_Table_Add r1 s x1 h_4 fun (r2 : Int) h_5 =>
              C_ref02_Of s1 h_5 fun (r3 : Int) h_6 =>
              (bif r2 != r3 then
                R false h_6
              else
                C_crc_Table_Made r1 h_6 fun (r4 : Int) h_7 =>
                (bif r4 != 1 then
                  R false h_7
                else
                  go1 s1 r2 (IntKind.i64.wrap (x32 + 1)) h_7
                )
              )
            else
              C_crc_Of all h_3 fun (r5 : Int) h_8 =>
              C_ref02_Of all h_8 fun (r6 : Int) h_9 =>
              (bif r5 == r6 then
                C_crc_Table_Sum r1 all h_9 fun (r7 : Int) h_10 =>
                (bif r7 == s then
                  C_crc_Bytes s h_10 fun (r8 : Sl) h_11 =>
                  ToS Try.prog 23 9 r8 h_11 fun str =>
                  C_ref02_Bytes s h_11 fun (r9 : Sl) h_12 =>
                  (ToS Try.prog 23 9 r8 h_12 fun str1 => (.string str1 : Value) = .string str) ∧
                  ToS Try.prog 23 9 r9 h_12 fun str2 =>
                  (bif str.toList == str2.toList then
                    C_ref02_Bytes s h_12 fun (r10 : Sl) h_13 =>
                    C_crc_Check all r10 h_13 fun (r11 : Bool) h_14 =>
                    R r11 h_14
                  else
                    R false h_12
                  )
                else
                  R false h_10
                )
              else
                R false h_9
              )
            )
            ) (⟨none, 0, 0⟩, 0, 0, ()) h_2
        )
      )
      ) (0, 0, ()) h_
  )
theorem E_law02_CrcSums (l : Sl) (h : Heap) (R : Bool → Heap → Prop) :
    VF Try.prog [(122, [(3, .one (.int .i64)), (15, .one (.int .i64))]), (4090, [(7, .one .sl), (8, .one (.int .u32)), (32, .one (.int .i64))])] Try.f12 [.slice l.a l.n l.c] h [.one .bool] R = S_law02_CrcSums l h R := by kernel_rfl
theorem A_law02_CrcSums {l : Sl} {h : Heap} {R : Bool → Heap → Prop} (hs : S_law02_CrcSums l h R) : C_law02_CrcSums l h R :=
  VF_sound (an := [(122, [(3, .one (.int .i64)), (15, .one (.int .i64))]), (4090, [(7, .one .sl), (8, .one (.int .u32)), (32, .one (.int .i64))])]) (fn := Try.f12) (args := [.slice l.a l.n l.c]) mixed_ Try.func12 (by kernel_rfl) (cast (E_law02_CrcSums l h R).symm hs)

/-- kissinggatelaw02.CrcTurned -/
def S_law02_CrcTurned (b : Sl) (at_ : Int) (by_ : Int) (h : Heap) (R : Bool → Heap → Prop) : Prop :=
  C_law02_fixed  h fun (r : Bool) h_ =>
  (bif !r then
    R false h_
  else
    (bif decide ((b.n : Int) > 600) then
      R true h_
    else
      (bif (b.n : Int) == 0 then
        R true h_
      else
        (bif by_ == 0 then
          R true h_
        else
          Alloc h_ (.cells #[] 5) fun b1 h_1 =>
          App Try.prog 23 23 ⟨some b1, 0, 0⟩ b h_1 fun s h_2 =>
          Nz (IntKind.u64.wrap (b.n : Int)) (
          Let (IntKind.i64.wrap (divV .rem .u64 (IntKind.u64.wrap at_) (IntKind.u64.wrap (b.n : Int))) : Int) fun i =>
          Ix s i 1 fun e =>
          Ld (.int .u8) h_2 e fun (x : Int) =>
          Ix s i 1 fun e1 =>
          St h_2 e1 (.int .u8 (bitV .xor .u8 x by_)) fun h_3 =>
          C_crc_Of b h_3 fun (r1 : Int) h_4 =>
          C_crc_Bytes r1 h_4 fun (r2 : Sl) h_5 =>
          C_crc_Of s h_5 fun (r3 : Int) h_6 =>
          C_crc_Of b h_6 fun (r4 : Int) h_7 =>
          (bif r3 == r4 then
            R false h_7
          else
            C_crc_Check s r2 h_7 fun (r5 : Bool) h_8 =>
            (bif r5 then
              R false h_8
            else
              C_crc_Check b r2 h_8 fun (r6 : Bool) h_9 =>
              (bif !r6 then
                R false h_9
              else
                Nz 4 (
                Ix r2 (divV .rem .i64 i 4) 1 fun e2 =>
                Ld (.int .u8) h_9 e2 fun (x1 : Int) =>
                Ix r2 (divV .rem .i64 i 4) 1 fun e3 =>
                St h_9 e3 (.int .u8 (bitV .xor .u8 x1 by_)) fun h_10 =>
                C_crc_Check b r2 h_10 fun (r7 : Bool) h_11 =>
                R (!r7) h_11
                )
              )
            )
          )
          )
        )
      )
    )
  )
theorem E_law02_CrcTurned (b : Sl) (at_ : Int) (by_ : Int) (h : Heap) (R : Bool → Heap → Prop) :
    VF Try.prog [] Try.f13 [.slice b.a b.n b.c, .int .i64 at_, .int .u8 by_] h [.one .bool] R = S_law02_CrcTurned b at_ by_ h R := by kernel_rfl
theorem A_law02_CrcTurned {b : Sl} {at_ : Int} {by_ : Int} {h : Heap} {R : Bool → Heap → Prop} (hs : S_law02_CrcTurned b at_ by_ h R) : C_law02_CrcTurned b at_ by_ h R :=
  VF_sound (an := []) (fn := Try.f13) (args := [.slice b.a b.n b.c, .int .i64 at_, .int .u8 by_]) mixed_ Try.func13 (by kernel_rfl) (cast (E_law02_CrcTurned b at_ by_ h R).symm hs)

/-- kissinggatelaw02.CrcBytes -/
def S_law02_CrcBytes (sum : Int) (b : Sl) (h : Heap) (R : Bool → Heap → Prop) : Prop :=
  C_law02_fixed  h fun (r : Bool) h_ =>
  (bif !r then
    R false h_
  else
    (bif decide ((b.n : Int) > 600) then
      R true h_
    else
      C_crc_Bytes sum h_ fun (r1 : Sl) h_1 =>
      ToS Try.prog 23 9 r1 h_1 fun str =>
      C_ref02_Bytes sum h_1 fun (r2 : Sl) h_2 =>
      (ToS Try.prog 23 9 r1 h_2 fun str1 => (.string str1 : Value) = .string str) ∧
      ToS Try.prog 23 9 r2 h_2 fun str2 =>
      (bif str.toList == str2.toList then
        C_ref02_Bytes sum h_2 fun (r3 : Sl) h_3 =>
        C_crc_Check b r3 h_3 fun (r4 : Bool) h_4 =>
        C_ref02_Of b h_4 fun (r5 : Int) h_5 =>
        R (r4 == (r5 == sum)) h_5
      else
        R false h_2
      )
    )
  )
theorem E_law02_CrcBytes (sum : Int) (b : Sl) (h : Heap) (R : Bool → Heap → Prop) :
    VF Try.prog [] Try.f14 [.int .u32 sum, .slice b.a b.n b.c] h [.one .bool] R = S_law02_CrcBytes sum b h R := by kernel_rfl
theorem A_law02_CrcBytes {sum : Int} {b : Sl} {h : Heap} {R : Bool → Heap → Prop} (hs : S_law02_CrcBytes sum b h R) : C_law02_CrcBytes sum b h R :=
  VF_sound (an := []) (fn := Try.f14) (args := [.int .u32 sum, .slice b.a b.n b.c]) mixed_ Try.func14 (by kernel_rfl) (cast (E_law02_CrcBytes sum b h R).symm hs)

/-- kissinggatelaw02.fixed -/
def S_law02_fixed  (h : Heap) (R : Bool → Heap → Prop) : Prop :=
  C_crc_New  h fun (r : Option Addr) h_ =>
  C_crc_Table_Made r h_ fun (r1 : Int) h_1 =>
  Alloc h_1 (.cells #[.int .u8 49, .int .u8 50, .int .u8 51, .int .u8 52, .int .u8 53, .int .u8 54, .int .u8 55, .int .u8 56, .int .u8 57] 5) fun b h_2 =>
  Frz Try.prog 23 23 ⟨some b, 9, 9⟩ h_2 fun bs h_3 =>
  C_crc_Table_Sum r bs h_3 fun (r2 : Int) h_4 =>
  C_crc_Table_Sum r ⟨none, 0, 0⟩ h_4 fun (r3 : Int) h_5 =>
  (bif r2 == 3808858755 then
    (bif r1 == 0 then
      C_crc_Table_Made r h_5 fun (r4 : Int) h_6 =>
      (bif r4 == 1 then
        C_crc_Of ⟨none, 0, 0⟩ h_6 fun (r5 : Int) h_7 =>
        (bif r5 == 0 then
          C_crc_Bytes r2 h_7 fun (r6 : Sl) h_8 =>
          (bif (r6.n : Int) == 4 then
            Alloc h_8 (.cells #[.int .u8 49, .int .u8 50, .int .u8 51, .int .u8 52, .int .u8 53, .int .u8 54, .int .u8 55, .int .u8 56, .int .u8 57] 5) fun b1 h_9 =>
            Frz Try.prog 23 23 ⟨some b1, 9, 9⟩ h_9 fun bs1 h_10 =>
            C_crc_Bytes r2 h_10 fun (r7 : Sl) h_11 =>
            C_crc_Check bs1 r7 h_11 fun (r8 : Bool) h_12 =>
            (bif r8 then
              C_crc_Check ⟨none, 0, 0⟩ ⟨none, 0, 0⟩ h_12 fun (r9 : Bool) h_13 =>
              (bif !r9 then
                C_crc_Table_Sum none ⟨none, 0, 0⟩ h_13 fun (r10 : Int) h_14 =>
                (bif r10 == 0 then
                  C_crc_Table_Made none h_14 fun (r11 : Int) h_15 =>
                  R (r11 == 0) h_15
                else
                  R false h_14
                )
              else
                R false h_13
              )
            else
              R false h_12
            )
          else
            R false h_8
          )
        else
          R false h_7
        )
      else
        R false h_6
      )
    else
      R false h_5
    )
  else
    R false h_5
  )
theorem E_law02_fixed  (h : Heap) (R : Bool → Heap → Prop) :
    VF Try.prog [] Try.f56 [] h [.one .bool] R = S_law02_fixed  h R := by kernel_rfl
theorem A_law02_fixed  {h : Heap} {R : Bool → Heap → Prop} (hs : S_law02_fixed  h R) : C_law02_fixed  h R :=
  VF_sound (an := []) (fn := Try.f56) (args := []) mixed_ Try.func56 (by kernel_rfl) (cast (E_law02_fixed  h R).symm hs)

/-- crc.New -/
def S_crc_New  (h : Heap) (R : Option Addr → Heap → Prop) : Prop :=
  Alloc h (.cells (zc Try.prog 132) 132) fun p h_ =>
  R (some p) h_
theorem E_crc_New  (h : Heap) (R : Option Addr → Heap → Prop) :
    VF Try.prog [] Try.f57 [] h [.one .ptr] R = S_crc_New  h R := by kernel_rfl
theorem A_crc_New  {h : Heap} {R : Option Addr → Heap → Prop} (hs : S_crc_New  h R) : C_crc_New  h R :=
  VF_sound (an := []) (fn := Try.f57) (args := []) mixed_ Try.func57 (by kernel_rfl) (cast (E_crc_New  h R).symm hs)

/-- (*crc.Table).Add -/
def S_crc_Table_Add (t : Option Addr) (sum : Int) (b : Sl) (h : Heap) (R : Int → Heap → Prop) : Prop :=
  (bif t.isNone then
    R 0 h
  else
    Nn t fun p =>
    C_sync_Once_Do (some p) (.func (.func 85) #[.pointer t] #[]) h fun h_ =>
    Let (bitV .xor .u32 4294967295 sum : Int) fun r =>
    Loop [.one (.int .u32), .one (.int .i64)] (fun _ (r1 : Int) (x22 : Int) h_1 go =>
      (bif decide (x22 < (b.n : Int)) then
        Ix b x22 1 fun e =>
        Ld (.int .u8) h_1 e fun (x : Int) =>
        Nneg 8 (
        Nn t fun p1 =>
        IxA (p1.add 4) 256 (bitV .xor .u8 (IntKind.u8.wrap r1) x) 1 fun e1 =>
        Ld (.int .u32) h_1 e1 fun (x1 : Int) =>
        Let (bitV .xor .u32 (shiftV .shr .u32 r1 8) x1 : Int) fun r2 =>
        go r2 (IntKind.i64.wrap (x22 + 1)) h_1
        )
      else
        R (bitV .xor .u32 4294967295 r1) h_1
      )
      ) (r, 0, ()) h_
  )
theorem E_crc_Table_Add (t : Option Addr) (sum : Int) (b : Sl) (h : Heap) (R : Int → Heap → Prop) :
    VF Try.prog [(250, [(7, .one (.int .u32)), (22, .one (.int .i64))])] Try.f58 [.pointer t, .int .u32 sum, .slice b.a b.n b.c] h [.one (.int .u32)] R = S_crc_Table_Add t sum b h R := by kernel_rfl
theorem A_crc_Table_Add {t : Option Addr} {sum : Int} {b : Sl} {h : Heap} {R : Int → Heap → Prop} (hs : S_crc_Table_Add t sum b h R) : C_crc_Table_Add t sum b h R :=
  VF_sound (an := [(250, [(7, .one (.int .u32)), (22, .one (.int .i64))])]) (fn := Try.f58) (args := [.pointer t, .int .u32 sum, .slice b.a b.n b.c]) mixed_ Try.func58 (by kernel_rfl) (cast (E_crc_Table_Add t sum b h R).symm hs)

/-- kissinggateref02.Of -/
def S_ref02_Of (b : Sl) (h : Heap) (R : Int → Heap → Prop) : Prop :=
  Loop [.one (.int .u32), .one (.int .i64)] (fun _ (r : Int) (x10 : Int) h_ go =>
    (bif decide (x10 < (b.n : Int)) then
      Ix b x10 1 fun e =>
      Ld (.int .u8) h_ e fun (x : Int) =>
      Let (bitV .xor .u32 r (IntKind.u32.wrap x) : Int) fun r1 =>
      Loop [.one (.int .u32), .one (.int .i64)] (fun _ (r2 : Int) (i : Int) h_1 go1 =>
        (bif decide (i < 8) then
          Nz 2 (
          Let ((divV .rem .u32 r2 2) == 1 : Bool) fun odd =>
          Nz 2 (
          Let (divV .quo .u32 r2 2 : Int) fun r3 =>
          (bif odd then
            Let (bitV .xor .u32 r3 2197175160 : Int) fun r4 =>
            Let (IntKind.i64.wrap (i + 1) : Int) fun i1 =>
            go1 r4 i1 h_1
          else
            Let (IntKind.i64.wrap (i + 1) : Int) fun i2 =>
            go1 r3 i2 h_1
          )
          )
          )
        else
          go r2 (IntKind.i64.wrap (x10 + 1)) h_1
        )
        ) (r1, 0, ()) h_
    else
      R (IntKind.u32.wrap (4294967295 - r)) h_
    )
    ) (4294967295, 0, ()) h
theorem E_ref02_Of (b : Sl) (h : Heap) (R : Int → Heap → Prop) :
    VF Try.prog [(58, [(3, .one (.int .u32)), (10, .one (.int .i64))]), (29902, [(3, .one (.int .u32)), (6, .one (.int .i64))])] Try.f59 [.slice b.a b.n b.c] h [.one (.int .u32)] R = S_ref02_Of b h R := by kernel_rfl
theorem A_ref02_Of {b : Sl} {h : Heap} {R : Int → Heap → Prop} (hs : S_ref02_Of b h R) : C_ref02_Of b h R :=
  VF_sound (an := [(58, [(3, .one (.int .u32)), (10, .one (.int .i64))]), (29902, [(3, .one (.int .u32)), (6, .one (.int .i64))])]) (fn := Try.f59) (args := [.slice b.a b.n b.c]) mixed_ Try.func59 (by kernel_rfl) (cast (E_ref02_Of b h R).symm hs)

/-- (*crc.Table).Made -/
def S_crc_Table_Made (t : Option Addr) (h : Heap) (R : Int → Heap → Prop) : Prop :=
  (bif t.isNone then
    R 0 h
  else
    Nn t fun p =>
    Ld (.int .i64) h (p.add 3) fun (made : Int) =>
    R made h
  )
theorem E_crc_Table_Made (t : Option Addr) (h : Heap) (R : Int → Heap → Prop) :
    VF Try.prog [] Try.f60 [.pointer t] h [.one (.int .i64)] R = S_crc_Table_Made t h R := by kernel_rfl
theorem A_crc_Table_Made {t : Option Addr} {h : Heap} {R : Int → Heap → Prop} (hs : S_crc_Table_Made t h R) : C_crc_Table_Made t h R :=
  VF_sound (an := []) (fn := Try.f60) (args := [.pointer t]) mixed_ Try.func60 (by kernel_rfl) (cast (E_crc_Table_Made t h R).symm hs)

/-- crc.Of -/
def S_crc_Of (b : Sl) (h : Heap) (R : Int → Heap → Prop) : Prop :=
  C_crc_New  h fun (r : Option Addr) h_ =>
  C_crc_Table_Sum r b h_ fun (r1 : Int) h_1 =>
  R r1 h_1
theorem E_crc_Of (b : Sl) (h : Heap) (R : Int → Heap → Prop) :
    VF Try.prog [] Try.f61 [.slice b.a b.n b.c] h [.one (.int .u32)] R = S_crc_Of b h R := by kernel_rfl
theorem A_crc_Of {b : Sl} {h : Heap} {R : Int → Heap → Prop} (hs : S_crc_Of b h R) : C_crc_Of b h R :=
  VF_sound (an := []) (fn := Try.f61) (args := [.slice b.a b.n b.c]) mixed_ Try.func61 (by kernel_rfl) (cast (E_crc_Of b h R).symm hs)

/-- (*crc.Table).Sum -/
def S_crc_Table_Sum (t : Option Addr) (b : Sl) (h : Heap) (R : Int → Heap → Prop) : Prop :=
  C_crc_Table_Add t 0 b h fun (r : Int) h_ =>
  R r h_
theorem E_crc_Table_Sum (t : Option Addr) (b : Sl) (h : Heap) (R : Int → Heap → Prop) :
    VF Try.prog [] Try.f62 [.pointer t, .slice b.a b.n b.c] h [.one (.int .u32)] R = S_crc_Table_Sum t b h R := by kernel_rfl
theorem A_crc_Table_Sum {t : Option Addr} {b : Sl} {h : Heap} {R : Int → Heap → Prop} (hs : S_crc_Table_Sum t b h R) : C_crc_Table_Sum t b h R :=
  VF_sound (an := []) (fn := Try.f62) (args := [.pointer t, .slice b.a b.n b.c]) mixed_ Try.func62 (by kernel_rfl) (cast (E_crc_Table_Sum t b h R).symm hs)

/-- crc.Bytes -/
def S_crc_Bytes (sum : Int) (h : Heap) (R : Sl → Heap → Prop) : Prop :=
  Loop [.one .sl, .one (.int .i64)] (fun _ (out : Sl) (x5 : Int) h_ go =>
    (bif decide (x5 < 4) then
      Nneg (IntKind.u64.wrap (IntKind.i64.wrap (8 * x5))) (
      Alloc h_ (.cells #[.int .u8 (IntKind.u8.wrap (shiftV .shr .u32 sum (IntKind.u64.wrap (IntKind.i64.wrap (8 * x5)))))] 5) fun b h_1 =>
      App Try.prog 23 23 out ⟨some b, 1, 1⟩ h_1 fun s h_2 =>
      go s (IntKind.i64.wrap (x5 + 1)) h_2
      )
    else
      R out h_
    )
    ) (⟨none, 0, 0⟩, 0, ()) h
theorem E_crc_Bytes (sum : Int) (h : Heap) (R : Sl → Heap → Prop) :
    VF Try.prog [(58, [(3, .one .sl), (5, .one (.int .i64))])] Try.f63 [.int .u32 sum] h [.one .sl] R = S_crc_Bytes sum h R := by kernel_rfl
theorem A_crc_Bytes {sum : Int} {h : Heap} {R : Sl → Heap → Prop} (hs : S_crc_Bytes sum h R) : C_crc_Bytes sum h R :=
  VF_sound (an := [(58, [(3, .one .sl), (5, .one (.int .i64))])]) (fn := Try.f63) (args := [.int .u32 sum]) mixed_ Try.func63 (by kernel_rfl) (cast (E_crc_Bytes sum h R).symm hs)

/-- kissinggateref02.Bytes -/
def S_ref02_Bytes (sum : Int) (h : Heap) (R : Sl → Heap → Prop) : Prop :=
  Nz 256 (
  Nz 256 (
  Nz 256 (
  Nz 65536 (
  Nz 256 (
  Nz 16777216 (
  Alloc h (.cells #[.int .u8 (IntKind.u8.wrap (divV .rem .u32 sum 256)), .int .u8 (IntKind.u8.wrap (divV .rem .u32 (divV .quo .u32 sum 256) 256)), .int .u8 (IntKind.u8.wrap (divV .rem .u32 (divV .quo .u32 sum 65536) 256)), .int .u8 (IntKind.u8.wrap (divV .quo .u32 sum 16777216))] 5) fun b h_ =>
  R ⟨some b, 4, 4⟩ h_
  )
  )
  )
  )
  )
  )
theorem E_ref02_Bytes (sum : Int) (h : Heap) (R : Sl → Heap → Prop) :
    VF Try.prog [] Try.f64 [.int .u32 sum] h [.one .sl] R = S_ref02_Bytes sum h R := by kernel_rfl
theorem A_ref02_Bytes {sum : Int} {h : Heap} {R : Sl → Heap → Prop} (hs : S_ref02_Bytes sum h R) : C_ref02_Bytes sum h R :=
  VF_sound (an := []) (fn := Try.f64) (args := [.int .u32 sum]) mixed_ Try.func64 (by kernel_rfl) (cast (E_ref02_Bytes sum h R).symm hs)

/-- crc.Check -/
def S_crc_Check (b : Sl) (sum : Sl) (h : Heap) (R : Bool → Heap → Prop) : Prop :=
  C_crc_Of b h fun (r : Int) h_ =>
  C_crc_Bytes r h_ fun (r1 : Sl) h_1 =>
  C_bytes_Equal r1 sum h_1 fun (r2 : Bool) h_2 =>
  R r2 h_2
theorem E_crc_Check (b : Sl) (sum : Sl) (h : Heap) (R : Bool → Heap → Prop) :
    VF Try.prog [] Try.f65 [.slice b.a b.n b.c, .slice sum.a sum.n sum.c] h [.one .bool] R = S_crc_Check b sum h R := by kernel_rfl
theorem A_crc_Check {b : Sl} {sum : Sl} {h : Heap} {R : Bool → Heap → Prop} (hs : S_crc_Check b sum h R) : C_crc_Check b sum h R :=
  VF_sound (an := []) (fn := Try.f65) (args := [.slice b.a b.n b.c, .slice sum.a sum.n sum.c]) mixed_ Try.func65 (by kernel_rfl) (cast (E_crc_Check b sum h R).symm hs)

/-- (*sync.Once).Do -/
def S_sync_Once_Do (o : Option Addr) (f : Value) (h : Heap) (R : Heap → Prop) : Prop :=
  Nn o fun p =>
  C_sync_atomic_Bool_Load (some p) h fun (r : Bool) h_ =>
  (bif !r then
    C_sync_Once_doSlow o f h_ fun h_1 =>
    R h_1
  else
    R h_
  )
theorem E_sync_Once_Do (o : Option Addr) (f : Value) (h : Heap) (R : Heap → Prop) :
    VF Try.prog [] Try.f84 [.pointer o, f] h [] R = S_sync_Once_Do o f h R := by kernel_rfl
theorem A_sync_Once_Do {o : Option Addr} {f : Value} {h : Heap} {R : Heap → Prop} (hs : S_sync_Once_Do o f h R) : C_sync_Once_Do o f h R :=
  VF_sound (an := []) (fn := Try.f84) (args := [.pointer o, f]) mixed_ Try.func84 (by kernel_rfl) (cast (E_sync_Once_Do o f h R).symm hs)

/-- (*crc.Table).fill -/
def S_crc_Table_fill (t : Option Addr) (h : Heap) (R : Heap → Prop) : Prop :=
  Nn t fun p =>
  Ld (.int .i64) h (p.add 3) fun (made : Int) =>
  Nn t fun p1 =>
  St h (p1.add 3) (.int .i64 (IntKind.i64.wrap (made + 1))) fun h_ =>
  Loop [.one (.int .i64)] (fun _ (x12 : Int) h_1 go =>
    (bif decide (x12 < 256) then
      Let (IntKind.u32.wrap x12 : Int) fun r =>
      Loop [.one (.int .u32), .one (.int .i64)] (fun _ (r1 : Int) (x17 : Int) h_2 go1 =>
        (bif decide (x17 < 8) then
          Let (bitV .and .u32 r1 1 : Int) fun odd =>
          Nneg 1 (
          Let (shiftV .shr .u32 r1 1 : Int) fun r2 =>
          (bif odd == 1 then
            Let (bitV .xor .u32 r2 2197175160 : Int) fun r3 =>
            go1 r3 (IntKind.i64.wrap (x17 + 1)) h_2
          else
            go1 r2 (IntKind.i64.wrap (x17 + 1)) h_2
          )
          )
        else
          Nn t fun p2 =>
          IxA (p2.add 4) 256 x12 1 fun e =>
          St h_2 e (.int .u32 r1) fun h_3 =>
          go (IntKind.i64.wrap (x12 + 1)) h_3
        )
        ) (r, 0, ()) h_1
    else
      R h_1
    )
    ) (0, ()) h_
theorem E_crc_Table_fill (t : Option Addr) (h : Heap) (R : Heap → Prop) :
    VF Try.prog [(14, [(12, .one (.int .i64))]), (14746, [(3, .one (.int .u32)), (17, .one (.int .i64))])] Try.f85 [.pointer t] h [] R = S_crc_Table_fill t h R := by kernel_rfl
theorem A_crc_Table_fill {t : Option Addr} {h : Heap} {R : Heap → Prop} (hs : S_crc_Table_fill t h R) : C_crc_Table_fill t h R :=
  VF_sound (an := [(14, [(12, .one (.int .i64))]), (14746, [(3, .one (.int .u32)), (17, .one (.int .i64))])]) (fn := Try.f85) (args := [.pointer t]) mixed_ Try.func85 (by kernel_rfl) (cast (E_crc_Table_fill t h R).symm hs)

/-- bytes.Equal -/
def S_bytes_Equal (a : Sl) (b : Sl) (h : Heap) (R : Bool → Heap → Prop) : Prop :=
  ToS Try.prog 23 9 a h fun str =>
  ToS Try.prog 23 9 b h fun str1 =>
  R (str.toList == str1.toList) h
theorem E_bytes_Equal (a : Sl) (b : Sl) (h : Heap) (R : Bool → Heap → Prop) :
    VF Try.prog [] Try.f86 [.slice a.a a.n a.c, .slice b.a b.n b.c] h [.one .bool] R = S_bytes_Equal a b h R := by kernel_rfl
theorem A_bytes_Equal {a : Sl} {b : Sl} {h : Heap} {R : Bool → Heap → Prop} (hs : S_bytes_Equal a b h R) : C_bytes_Equal a b h R :=
  VF_sound (an := []) (fn := Try.f86) (args := [.slice a.a a.n a.c, .slice b.a b.n b.c]) mixed_ Try.func86 (by kernel_rfl) (cast (E_bytes_Equal a b h R).symm hs)

/-- (*sync.atomic.Bool).Load -/
def S_sync_atomic_Bool_Load (x : Option Addr) (h : Heap) (R : Bool → Heap → Prop) : Prop :=
  Nn x fun p =>
  ExtR Try.prog 92 #[.pointer (some p)] h [.one (.int .u32)] fun (r : Int) h_ =>
  R (r != 0) h_
theorem E_sync_atomic_Bool_Load (x : Option Addr) (h : Heap) (R : Bool → Heap → Prop) :
    VF Try.prog [] Try.f90 [.pointer x] h [.one .bool] R = S_sync_atomic_Bool_Load x h R := by kernel_rfl
theorem A_sync_atomic_Bool_Load {x : Option Addr} {h : Heap} {R : Bool → Heap → Prop} (hs : S_sync_atomic_Bool_Load x h R) : C_sync_atomic_Bool_Load x h R :=
  VF_sound (an := []) (fn := Try.f90) (args := [.pointer x]) mixed_ Try.func90 (by kernel_rfl) (cast (E_sync_atomic_Bool_Load x h R).symm hs)

end Go.Proofs.Ytfafikomhbedbaa
