/- Printed by a program: what each function asks of the heap, that this is the reading of its code, and what follows for a call. -/
import Derived.Test.YtegbnmaglkpkjaaSC
import Derived.Test.YtegbnmaglkpkjaaProg
set_option maxRecDepth 1000000
namespace Go.Proofs.Ytegbnmaglkpkjaa
open Go

/-- kissinggatelaw03.FrameReads -/
def S_law03_FrameReads (b : Sl) (h : Heap) (R : Bool → Heap → Prop) : Prop :=
  C_law03_fixed  h fun (r : Bool) h_ =>
  (bif !r then
    R false h_
  else
    (bif decide ((b.n : Int) > 700) then
      R true h_
    else
      C_frame_Take b h_ fun (r1 : Sl) (r2 : Int) (r3 : Int) h_1 =>
      C_ref03_Take b h_1 fun (r4 : Sl) (r5 : Int) (r6 : Int) h_2 =>
      C_frame_All b h_2 fun (r7 : Sl) (r8 : Int) (r9 : Int) h_3 =>
      C_ref03_All b h_3 fun (r10 : Sl) (r11 : Int) (r12 : Int) h_4 =>
      C_frame_Whole b h_4 fun (r13 : Sl) (r14 : Int) h_5 =>
      (bif r3 != r6 then
        R false h_5
      else
        (bif r2 != r5 then
          R false h_5
        else
          ToS Try.prog 22 9 r1 h_5 fun str =>
          ToS Try.prog 22 9 r4 h_5 fun str1 =>
          (bif !(str.toList == str1.toList) then
            R false h_5
          else
            (bif r9 != r12 then
              R false h_5
            else
              (bif r8 != r11 then
                R false h_5
              else
                C_law03_same r7 r10 h_5 fun (r15 : Bool) h_6 =>
                (bif !r15 then
                  R false h_6
                else
                  (bif r3 == 0 then
                    (bif decide (r2 < (b.n : Int)) then
                      (bif r14 == 2 then
                        R ((r13.n : Int) == 0) h_6
                      else
                        R false h_6
                      )
                    else
                      (bif r14 == r3 then
                        ToS Try.prog 22 9 r13 h_6 fun str2 =>
                        ToS Try.prog 22 9 r1 h_6 fun str3 =>
                        R (str2.toList == str3.toList) h_6
                      else
                        R false h_6
                      )
                    )
                  else
                    (bif r14 == r3 then
                      ToS Try.prog 22 9 r13 h_6 fun str4 =>
                      ToS Try.prog 22 9 r1 h_6 fun str5 =>
                      R (str4.toList == str5.toList) h_6
                    else
                      R false h_6
                    )
                  )
                )
              )
            )
          )
        )
      )
    )
  )
theorem E_law03_FrameReads (b : Sl) (h : Heap) (R : Bool → Heap → Prop) :
    VF Try.prog [] Try.f3 [.slice b.a b.n b.c] h [.one .bool] R = S_law03_FrameReads b h R := by kernel_rfl
theorem A_law03_FrameReads {b : Sl} {h : Heap} {R : Bool → Heap → Prop} (hs : S_law03_FrameReads b h R) : C_law03_FrameReads b h R :=
  VF_sound (an := []) (fn := Try.f3) (args := [.slice b.a b.n b.c]) mixed_ Try.func3 (by kernel_rfl) (cast (E_law03_FrameReads b h R).symm hs)

/-- kissinggatelaw03.FramePuts -/
def S_law03_FramePuts (ahead : Sl) (payload : Sl) (behind : Sl) (more : Int) (h : Heap) (R : Bool → Heap → Prop) : Prop :=
  C_law03_fixed  h fun (r : Bool) h_ =>
  (bif !r then
    R false h_
  else
    (bif decide ((IntKind.i64.wrap ((IntKind.i64.wrap ((ahead.n : Int) + (payload.n : Int))) + (behind.n : Int))) > 700) then
      R true h_
    else
      Alloc h_ (.cells #[] 5) fun b h_1 =>
      App Try.prog 22 22 ⟨some b, 0, 0⟩ ahead h_1 fun s h_2 =>
      C_frame_Put s payload h_2 fun (r1 : Sl) (r2 : Int) h_3 =>
      (bif r2 != 0 then
        R false h_3
      else
        ToS Try.prog 22 9 r1 h_3 fun str =>
        ToS Try.prog 22 9 ahead h_3 fun str1 =>
        C_ref03_Put payload h_3 fun (r3 : Sl) h_4 =>
        (ToS Try.prog 22 9 r1 h_4 fun str2 => (.string str2 : Value) = .string str) ∧
        (ToS Try.prog 22 9 ahead h_4 fun str3 => (.string str3 : Value) = .string str1) ∧
        ToS Try.prog 22 9 r3 h_4 fun str4 =>
        Cat str1 str4 fun str5 =>
        (bif !(str.toList == str5.toList) then
          R false h_4
        else
          C_frame_Size (payload.n : Int) h_4 fun (r4 : Int) h_5 =>
          (bif (r1.n : Int) != (IntKind.i64.wrap ((ahead.n : Int) + r4)) then
            R false h_5
          else
            Cut Try.prog 22 r1 (some (.int .i64 (ahead.n : Int))) none none fun s1 =>
            App Try.prog 22 22 s1 behind h_5 fun s2 h_6 =>
            C_frame_Take s2 h_6 fun (r5 : Sl) (r6 : Int) (r7 : Int) h_7 =>
            (bif r7 != 0 then
              R false h_7
            else
              ToS Try.prog 22 9 r5 h_7 fun str6 =>
              ToS Try.prog 22 9 payload h_7 fun str7 =>
              (bif !(str6.toList == str7.toList) then
                R false h_7
              else
                C_frame_Size (payload.n : Int) h_7 fun (r8 : Int) h_8 =>
                (bif r6 != r8 then
                  R false h_8
                else
                  Mk Try.prog 22 (IntKind.i64.wrap (4000 + (IntKind.i64.wrap more))) (IntKind.i64.wrap (4000 + (IntKind.i64.wrap more))) h_8 fun s3 h_9 =>
                  C_frame_Put ⟨none, 0, 0⟩ s3 h_9 fun (r9 : Sl) (r10 : Int) h_10 =>
                  (bif decide ((s3.n : Int) > 4096) then
                    Join [.one .bool] (fun _ (x8 : Bool) h_11 =>
                      R x8 h_11
                      ) fun J =>
                    (bif r10 == 4 then
                      J ((r9.n : Int) == 0) h_10
                    else
                      J false h_10
                    )
                  else
                    C_frame_Whole r9 h_10 fun (r11 : Sl) (r12 : Int) h_12 =>
                    (bif r10 == 0 then
                      (bif r12 == 0 then
                        R ((r11.n : Int) == (s3.n : Int)) h_12
                      else
                        R false h_12
                      )
                    else
                      R false h_12
                    )
                  )
                )
              )
            )
          )
        )
      )
    )
  )
theorem E_law03_FramePuts (ahead : Sl) (payload : Sl) (behind : Sl) (more : Int) (h : Heap) (R : Bool → Heap → Prop) :
    VF Try.prog [(16372, [(8, .one .bool)])] Try.f4 [.slice ahead.a ahead.n ahead.c, .slice payload.a payload.n payload.c, .slice behind.a behind.n behind.c, .int .u8 more] h [.one .bool] R = S_law03_FramePuts ahead payload behind more h R := by kernel_rfl
theorem A_law03_FramePuts {ahead : Sl} {payload : Sl} {behind : Sl} {more : Int} {h : Heap} {R : Bool → Heap → Prop} (hs : S_law03_FramePuts ahead payload behind more h R) : C_law03_FramePuts ahead payload behind more h R :=
  VF_sound (an := [(16372, [(8, .one .bool)])]) (fn := Try.f4) (args := [.slice ahead.a ahead.n ahead.c, .slice payload.a payload.n payload.c, .slice behind.a behind.n behind.c, .int .u8 more]) mixed_ Try.func4 (by kernel_rfl) (cast (E_law03_FramePuts ahead payload behind more h R).symm hs)

/-- kissinggatelaw03.FrameTurned -/
def S_law03_FrameTurned (payload : Sl) (behind : Sl) (at_ : Int) (by_ : Int) (h : Heap) (R : Bool → Heap → Prop) : Prop :=
  C_law03_fixed  h fun (r : Bool) h_ =>
  (bif !r then
    R false h_
  else
    (bif decide ((IntKind.i64.wrap ((payload.n : Int) + (behind.n : Int))) > 700) then
      R true h_
    else
      (bif by_ == 0 then
        R true h_
      else
        C_frame_Put ⟨none, 0, 0⟩ payload h_ fun (r1 : Sl) (r2 : Int) h_1 =>
        Nz (IntKind.u64.wrap (r1.n : Int)) (
        Let (IntKind.i64.wrap (divV .rem .u64 (IntKind.u64.wrap at_) (IntKind.u64.wrap (r1.n : Int))) : Int) fun i =>
        Cut Try.prog 22 r1 none (some (.int .i64 i)) none fun s =>
        C_frame_Take s h_1 fun (r3 : Sl) (r4 : Int) (r5 : Int) h_2 =>
        Ix r1 i 1 fun e =>
        Ld (.int .u8) h_2 e fun (x : Int) =>
        Ix r1 i 1 fun e1 =>
        St h_2 e1 (.int .u8 (bitV .xor .u8 x by_)) fun h_3 =>
        App Try.prog 22 22 r1 behind h_3 fun s1 h_4 =>
        C_frame_Take s1 h_4 fun (r6 : Sl) (r7 : Int) (r8 : Int) h_5 =>
        (bif r5 == 2 then
          (bif r8 != 0 then
            (bif r7 == 0 then
              R ((r6.n : Int) == 0) h_5
            else
              R false h_5
            )
          else
            R false h_5
          )
        else
          R false h_5
        )
        )
      )
    )
  )
theorem E_law03_FrameTurned (payload : Sl) (behind : Sl) (at_ : Int) (by_ : Int) (h : Heap) (R : Bool → Heap → Prop) :
    VF Try.prog [] Try.f5 [.slice payload.a payload.n payload.c, .slice behind.a behind.n behind.c, .int .i64 at_, .int .u8 by_] h [.one .bool] R = S_law03_FrameTurned payload behind at_ by_ h R := by kernel_rfl
theorem A_law03_FrameTurned {payload : Sl} {behind : Sl} {at_ : Int} {by_ : Int} {h : Heap} {R : Bool → Heap → Prop} (hs : S_law03_FrameTurned payload behind at_ by_ h R) : C_law03_FrameTurned payload behind at_ by_ h R :=
  VF_sound (an := []) (fn := Try.f5) (args := [.slice payload.a payload.n payload.c, .slice behind.a behind.n behind.c, .int .i64 at_, .int .u8 by_]) mixed_ Try.func5 (by kernel_rfl) (cast (E_law03_FrameTurned payload behind at_ by_ h R).symm hs)

/-- kissinggatelaw03.fixed -/
def S_law03_fixed  (h : Heap) (R : Bool → Heap → Prop) : Prop :=
  Alloc h (.cells #[.int .u8 104, .int .u8 105] 5) fun b h_ =>
  Frz Try.prog 22 22 ⟨some b, 2, 2⟩ h_ fun bs h_1 =>
  C_frame_Put ⟨none, 0, 0⟩ bs h_1 fun (r : Sl) (r1 : Int) h_2 =>
  (bif (r.n : Int) != 10 then
    R false h_2
  else
    C_frame_Take r h_2 fun (r2 : Sl) (r3 : Int) (r4 : Int) h_3 =>
    Alloc h_3 (.cells #[.int .u8 0] 5) fun b1 h_4 =>
    App Try.prog 22 22 r ⟨some b1, 1, 1⟩ h_4 fun s h_5 =>
    C_frame_Whole s h_5 fun (r5 : Sl) (r6 : Int) h_6 =>
    Alloc h_6 (.cells #[] 5) fun b2 h_7 =>
    App Try.prog 22 22 ⟨some b2, 0, 0⟩ r h_7 fun s1 h_8 =>
    Alloc h_8 (.cells #[.int .u8 1, .int .u8 2] 5) fun b3 h_9 =>
    App Try.prog 22 22 s1 ⟨some b3, 2, 2⟩ h_9 fun s2 h_10 =>
    C_frame_All s2 h_10 fun (r7 : Sl) (r8 : Int) (r9 : Int) h_11 =>
    (bif r1 == 0 then
      Ix r 0 1 fun e =>
      Ld (.int .u8) h_11 e fun (x : Int) =>
      (bif x == 0 then
        Ix r 1 1 fun e1 =>
        Ld (.int .u8) h_11 e1 fun (x1 : Int) =>
        (bif x1 == 2 then
          Ix r 2 1 fun e2 =>
          Ld (.int .u8) h_11 e2 fun (x2 : Int) =>
          (bif x2 == 255 then
            Ix r 3 1 fun e3 =>
            Ld (.int .u8) h_11 e3 fun (x3 : Int) =>
            (bif x3 == 253 then
              ToS Try.prog 22 9 r2 h_11 fun str =>
              (bif str.toList == (⟨#[104, 105]⟩ : ByteArray).toList then
                (bif r3 == 10 then
                  (bif r4 == 0 then
                    (bif r6 == 2 then
                      (bif (r7.n : Int) == 1 then
                        (bif r8 == 10 then
                          (bif r9 == 2 then
                            C_frame_Size 2 h_11 fun (r10 : Int) h_12 =>
                            (bif r10 == 10 then
                              C_frame_Size (-1) h_12 fun (r11 : Int) h_13 =>
                              R (r11 == 8) h_13
                            else
                              R false h_12
                            )
                          else
                            R false h_11
                          )
                        else
                          R false h_11
                        )
                      else
                        R false h_11
                      )
                    else
                      R false h_11
                    )
                  else
                    R false h_11
                  )
                else
                  R false h_11
                )
              else
                R false h_11
              )
            else
              R false h_11
            )
          else
            R false h_11
          )
        else
          R false h_11
        )
      else
        R false h_11
      )
    else
      R false h_11
    )
  )
theorem E_law03_fixed  (h : Heap) (R : Bool → Heap → Prop) :
    VF Try.prog [] Try.f13 [] h [.one .bool] R = S_law03_fixed  h R := by kernel_rfl
theorem A_law03_fixed  {h : Heap} {R : Bool → Heap → Prop} (hs : S_law03_fixed  h R) : C_law03_fixed  h R :=
  VF_sound (an := []) (fn := Try.f13) (args := []) mixed_ Try.func13 (by kernel_rfl) (cast (E_law03_fixed  h R).symm hs)

/-- kissinggatelaw03.same -/
def S_law03_same (a : Sl) (b : Sl) (h : Heap) (R : Bool → Heap → Prop) : Prop :=
  (bif (a.n : Int) != (b.n : Int) then
    R false h
  else
    Loop [.one (.int .i64)] (fun _ (x13 : Int) h_ go =>
      (bif decide (x13 < (a.n : Int)) then
        Ix a x13 1 fun e =>
        Ld .sl h_ e fun (x : Sl) =>
        ToS Try.prog 22 9 x h_ fun str =>
        Ix b x13 1 fun e1 =>
        Ld .sl h_ e1 fun (x1 : Sl) =>
        ToS Try.prog 22 9 x1 h_ fun str1 =>
        (bif !(str.toList == str1.toList) then
          R false h_
        else
          go (IntKind.i64.wrap (x13 + 1)) h_
        )
      else
        R true h_
      )
      ) (0, ()) h
  )
theorem E_law03_same (a : Sl) (b : Sl) (h : Heap) (R : Bool → Heap → Prop) :
    VF Try.prog [(58, [(13, .one (.int .i64))])] Try.f19 [.slice a.a a.n a.c, .slice b.a b.n b.c] h [.one .bool] R = S_law03_same a b h R := by kernel_rfl
theorem A_law03_same {a : Sl} {b : Sl} {h : Heap} {R : Bool → Heap → Prop} (hs : S_law03_same a b h R) : C_law03_same a b h R :=
  VF_sound (an := [(58, [(13, .one (.int .i64))])]) (fn := Try.f19) (args := [.slice a.a a.n a.c, .slice b.a b.n b.c]) mixed_ Try.func19 (by kernel_rfl) (cast (E_law03_same a b h R).symm hs)

end Go.Proofs.Ytegbnmaglkpkjaa
