/-
  Layer 18 (wire): the laws WireCommands, WireReads over the heap alone.
-/
import Derived.Test.YtnognoiaakiepaaXf
namespace Go.Proofs.Ytnognoiaakiepaa
open Go

def Cmd.cells (c : Cmd) : List Value := [.int .i64 c.kind, .int .i64 c.tx, .int .i64 c.att, .int .i64 c.stamp, .int .i64 c.op, .string (strB c.key), .string (strB c.value), .int .i64 c.mode, .bool c.yes]
def Rep.cells (c : Rep) : List Value := [.int .i64 c.code, .int .i64 c.state, .string (strB c.value), .bool c.has]
theorem cmd_eqL (a c : Cmd) : eqL a.cells c.cells = true ↔ a = c := by
  cases a; cases c
  simp only [Cmd.cells, eqL, eqB, strB_toList, Bool.and_true, Bool.and_eq_true, beq_iff_eq, Cmd.mk.injEq]
theorem rep_eqL (a c : Rep) : eqL a.cells c.cells = true ↔ a = c := by
  cases a; cases c
  simp only [Rep.cells, eqL, eqB, strB_toList, Bool.and_true, Bool.and_eq_true, beq_iff_eq, Rep.mk.injEq]
/-- The law's end: of an answer. -/
def RepW (R : Bool → Heap → Prop) (r1 : Addr) (h_7 : Heap) : Prop :=
  Ld (.int .i64) h_7 r1 fun (x_Code : Int) =>
  Ld (.int .i64) h_7 (r1.add 1) fun (x_State : Int) =>
  Ld .str h_7 (r1.add 2) fun (x_Value5 : ByteArray) =>
  Ld .bool h_7 (r1.add 3) fun (x_Has : Bool) =>
  C_wire_Reply (x_Code, x_State, x_Value5, x_Has, ()) h_7 fun (r9 : Sl) (r10 : Int) h_8 =>
  Ld (.int .i64) h_8 r1 fun (x_Code1 : Int) =>
  Ld (.int .i64) h_8 (r1.add 1) fun (x_State1 : Int) =>
  Ld .str h_8 (r1.add 2) fun (x_Value6 : ByteArray) =>
  Ld .bool h_8 (r1.add 3) fun (x_Has1 : Bool) =>
  C_ref18_Reply (x_Code1, x_State1, x_Value6, x_Has1, ()) h_8 fun (r11 : ByteArray) (r12 : Bool) h_9 =>
  (bif !r12 then
    Join [.one .bool] (fun _ (x6 : Bool) h_10 =>
      R x6 h_10
      ) fun J1 =>
    (bif r10 == 4 then
      J1 ((r9.n : Int) == 0) h_9
    else
      J1 false h_9
    )
  else
    C_wire_ReadReply r9 h_9 fun (r13 : KL [.int .i64, .int .i64, .str, .bool]) (r14 : Int) h_11 =>
    Alloc h_11 (.cells #[.int .i64 0, .int .i64 0, .string (⟨#[]⟩ : ByteArray), .bool false] 58) fun y h_12 =>
    St h_12 y (.int .i64 r13.1) fun h_13 =>
    St h_13 (y.add 1) (.int .i64 r13.2.1) fun h_14 =>
    St h_14 (y.add 2) (.string r13.2.2.1) fun h_15 =>
    St h_15 (y.add 3) (.bool r13.2.2.2.1) fun h_16 =>
    (bif r10 == 0 then
      ToS Try.prog 22 9 r9 h_16 fun str2 =>
      (bif str2.toList == r11.toList then
        (bif r14 == 0 then
          Ld (.int .i64) h_16 y fun (x_Code2 : Int) =>
          Ld (.int .i64) h_16 (y.add 1) fun (x_State2 : Int) =>
          Ld .str h_16 (y.add 2) fun (x_Value7 : ByteArray) =>
          Ld .bool h_16 (y.add 3) fun (x_Has2 : Bool) =>
          Ld (.int .i64) h_16 r1 fun (x_Code3 : Int) =>
          Ld (.int .i64) h_16 (r1.add 1) fun (x_State3 : Int) =>
          Ld .str h_16 (r1.add 2) fun (x_Value8 : ByteArray) =>
          Ld .bool h_16 (r1.add 3) fun (x_Has3 : Bool) =>
          OpV Try.prog (do eqGuard .eql 58 (.tmp 146) (.tmp 147) (.agg #[.int .i64 x_Code2, .int .i64 x_State2, .string x_Value7, .bool x_Has2]) (.agg #[.int .i64 x_Code3, .int .i64 x_State3, .string x_Value8, .bool x_Has3]); binOp .eql 58 (.agg #[.int .i64 x_Code2, .int .i64 x_State2, .string x_Value7, .bool x_Has2]) (.agg #[.int .i64 x_Code3, .int .i64 x_State3, .string x_Value8, .bool x_Has3])) h_16 [.one .bool] fun (q1 : Bool) =>
          R q1 h_16
        else
          R false h_16
        )
      else
        R false h_16
      )
    else
      R false h_16
    )
  )
/-- The law's end: what is read is told again. -/
def TailR (R : Bool → Heap → Prop) (r4 r9 r13 : Bool) (b : Sl) (c r7 m : Addr) (h_57 : Heap) : Prop :=
  Join [] (fun _ h_58 =>
    Join [] (fun _ h_59 =>
      (bif r13 then
        Ld (.int .i64) h_59 m fun (x_Kind4 : Int) =>
        Ld (.int .i64) h_59 (m.add 1) fun (x_From2 : Int) =>
        Ld (.int .i64) h_59 (m.add 2) fun (x_To2 : Int) =>
        Ld (.int .i64) h_59 (m.add 3) fun (x_Term2 : Int) =>
        Ld (.int .i64) h_59 (m.add 4) fun (x_Index2 : Int) =>
        Ld (.int .i64) h_59 (m.add 5) fun (x_LogTerm2 : Int) =>
        Ld (.int .i64) h_59 (m.add 6) fun (x_Commit2 : Int) =>
        Ld .bool h_59 (m.add 7) fun (x_Yes4 : Bool) =>
        Ld .sl h_59 (m.add 8) fun (x_Entries2 : Sl) =>
        C_wire_Message (x_Kind4, x_From2, x_To2, x_Term2, x_Index2, x_LogTerm2, x_Commit2, x_Yes4, x_Entries2, ()) h_59 fun (r15 : Sl) (r16 : Int) h_60 =>
        (bif r16 != 0 then
          R false h_60
        else
          ToS Try.prog 22 9 r15 h_60 fun str3 =>
          ToS Try.prog 22 9 b h_60 fun str4 =>
          (bif !(str3.toList == str4.toList) then
            R false h_60
          else
            R true h_60
          )
        )
      else
        R true h_59
      )
      ) fun J1 =>
    (bif r9 then
      Ld (.int .i64) h_58 r7 fun (x_Code2 : Int) =>
      Ld (.int .i64) h_58 (r7.add 1) fun (x_State2 : Int) =>
      Ld .str h_58 (r7.add 2) fun (x_Value4 : ByteArray) =>
      Ld .bool h_58 (r7.add 3) fun (x_Has2 : Bool) =>
      C_wire_Reply (x_Code2, x_State2, x_Value4, x_Has2, ()) h_58 fun (r17 : Sl) (r18 : Int) h_61 =>
      (bif r18 != 0 then
        R false h_61
      else
        ToS Try.prog 22 9 r17 h_61 fun str5 =>
        ToS Try.prog 22 9 b h_61 fun str6 =>
        (bif !(str5.toList == str6.toList) then
          R false h_61
        else
          J1  h_61
        )
      )
    else
      J1  h_58
    )
    ) fun J =>
  (bif r4 then
    Ld (.int .i64) h_57 c fun (x_Kind5 : Int) =>
    Ld (.int .i64) h_57 (c.add 1) fun (x_Tx2 : Int) =>
    Ld (.int .i64) h_57 (c.add 2) fun (x_Attempt2 : Int) =>
    Ld (.int .i64) h_57 (c.add 3) fun (x_Stamp2 : Int) =>
    Ld (.int .i64) h_57 (c.add 4) fun (x_Op2 : Int) =>
    Ld .str h_57 (c.add 5) fun (x_Key2 : ByteArray) =>
    Ld .str h_57 (c.add 6) fun (x_Value5 : ByteArray) =>
    Ld (.int .i64) h_57 (c.add 7) fun (x_Mode2 : Int) =>
    Ld .bool h_57 (c.add 8) fun (x_Yes5 : Bool) =>
    C_wire_Command (x_Kind5, x_Tx2, x_Attempt2, x_Stamp2, x_Op2, x_Key2, x_Value5, x_Mode2, x_Yes5, ()) h_57 fun (r19 : Sl) (r20 : Int) h_62 =>
    (bif r20 != 0 then
      R false h_62
    else
      ToS Try.prog 22 9 r19 h_62 fun str7 =>
      ToS Try.prog 22 9 b h_62 fun str8 =>
      (bif !(str7.toList == str8.toList) then
        R false h_62
      else
        J  h_62
      )
    )
  else
    J  h_57
  )
section
variable {hB h : Heap} {F L : List Res} {b : Sl} {l : List UInt8}
set_option maxHeartbeats 1000000 in
theorem RepW_ok {p3 : Nat} {r : Rep} (H : At hB h (.blk p3 58 r.cells :: F)) (hv : r.value.length ≤ 1000000) (hi : r.i64) : RepW (fun (r : Bool) (h' : Heap) => r = true ∧ Ext hB.size hB h') ⟨p3, 0, none⟩ h := by
  unfold RepW
  refine ldAt0 H 0 rfl r.code rfl (ldAt H 0 rfl r.state rfl (ldAt H 0 rfl (strB r.value) rfl (ldAt H 0 rfl r.has rfl ?_)))
  refine wire_Reply_ok (fun hno h2 e2 => ?_) fun hfit s2 h2 o2 f2 e2 => ?_
  · have H := H.ext' e2
    refine ldAt0 H 0 rfl r.code rfl (ldAt H 0 rfl r.state rfl (ldAt H 0 rfl (strB r.value) rfl (ldAt H 0 rfl r.has rfl ?_)))
    refine ref18_Reply_ok hv fun v h3 e3 hv3 => ?_
    have H := H.ext' e3
    cases v with
    | true => exact absurd (hv3.1 rfl) hno
    | false => exact brT (join1 (s1 := .one .bool) (fun (x : Bool) h6 => x = true ∧ h6 = h3) (fun _ (x : Bool) h6 hJ => by obtain ⟨rfl, rfl⟩ := hJ; exact ⟨rfl, H.ext⟩) (brY rfl ⟨rfl, rfl⟩))
  · have H := H.new e2 (r := .own s2 1 (cB (repB r))) o2 f2
    refine ldAt0 H 1 rfl r.code rfl (ldAt H 1 rfl r.state rfl (ldAt H 1 rfl (strB r.value) rfl (ldAt H 1 rfl r.has rfl ?_)))
    refine ref18_Reply_ok hv fun v h3 e3 hv3 => ?_
    have H := H.ext' e3
    obtain rfl : v = true := hv3.2 hfit
    have hput : repR (repB r) = some r := rep_put hfit hi
    refine brF (wire_ReadReply_ok (H.rdo 0 rfl) (H.own 0 rfl).2.1 (fun hn => by rw [hput] at hn; cases hn) fun m hm h4 e4 => ?_)
    rw [hput] at hm
    injection hm with hm
    subst hm
    have H := H.ext' e4
    refine allocAt H fun h5 p5 H => ?_
    repeat (first | with_reducible refine nn ?_ | with_reducible refine let_ ?_ | with_reducible refine brSome ?_ | with_reducible refine brF ?_ | with_reducible refine brT ?_ | ((with_reducible apply ldAt H 0); exact rfl; exact rfl) | ((with_reducible apply ldAt0 H 0); exact rfl; exact rfl) | ((with_reducible apply stAt H 0); exact rfl; exact rfl; intro h H; (try dsimp only [List.set] at H)) | ((with_reducible apply stAt0 H 0); exact rfl; exact rfl; intro h H; (try dsimp only [List.set] at H)) | ((with_reducible apply allocAt H); intro h b H) | ((with_reducible refine ⟨?_, ?_⟩); first | ((with_reducible apply ldAt H 0); exact rfl; exact rfl; exact rfl) | ((with_reducible apply ldAt0 H 0); exact rfl; exact rfl; exact rfl)))
    rename Heap => hw
    have H : At hB hw (.blk p5 58 r.cells :: .own s2 1 (cB (repB r)) :: .blk p3 58 r.cells :: F) := H
    refine brY rfl (toS BT (H.rdo 1 rfl) (brY (by simp) (brY rfl ?_)))
    refine ldAt0 H 0 rfl r.code rfl (ldAt H 0 rfl r.state rfl (ldAt H 0 rfl (strB r.value) rfl (ldAt H 0 rfl r.has rfl ?_)))
    refine ldAt0 H 2 rfl r.code rfl (ldAt H 2 rfl r.state rfl (ldAt H 2 rfl (strB r.value) rfl (ldAt H 2 rfl r.has rfl ?_)))
    exact opEql (us := r.cells) (vs := r.cells) (by kernel_rfl) ⟨(rep_eqL _ _).2 rfl, H.ext⟩
set_option maxHeartbeats 1000000 in
theorem TailR_ok {pc pr pm : Nat} {sm : Sl} {x1 : Cmd} {x3 : Rep} {x5 : Msg} {r4 r9 r13 : Bool} (H : At hB h [.blk pm 81 [.int .i64 x5.kind, .int .i64 x5.frm, .int .i64 x5.to, .int .i64 x5.term, .int .i64 x5.index, .int .i64 x5.lterm, .int .i64 x5.commit, .bool x5.yes, .slice sm.a sm.n sm.c], .own sm 2 (eEN.fl x5.es), .blk pr 58 x3.cells, .blk pc 56 x1.cells])
    (hb : RdS hB 1 b (cB l)) (h1 : r4 = true → cmdR l = some x1) (h2 : r9 = true → repR l = some x3) (h3 : r13 = true → msgR l = some x5) : TailR (fun (r : Bool) (h' : Heap) => r = true ∧ Ext hB.size hB h') r4 r9 r13 b ⟨pc, 0, none⟩ ⟨pr, 0, none⟩ ⟨pm, 0, none⟩ h := by
  unfold TailR
  refine join0 (fun h' => At hB h' [.blk pm 81 [.int .i64 x5.kind, .int .i64 x5.frm, .int .i64 x5.to, .int .i64 x5.term, .int .i64 x5.index, .int .i64 x5.lterm, .int .i64 x5.commit, .bool x5.yes, .slice sm.a sm.n sm.c], .own sm 2 (eEN.fl x5.es), .blk pr 58 x3.cells, .blk pc 56 x1.cells]) (fun _ h' H => ?_) ?_
  · refine join0 (fun h' => At hB h' [.blk pm 81 [.int .i64 x5.kind, .int .i64 x5.frm, .int .i64 x5.to, .int .i64 x5.term, .int .i64 x5.index, .int .i64 x5.lterm, .int .i64 x5.commit, .bool x5.yes, .slice sm.a sm.n sm.c], .own sm 2 (eEN.fl x5.es), .blk pr 58 x3.cells, .blk pc 56 x1.cells]) (fun _ h' H => ?_) ?_
    · cases r13 with
      | false => exact brF ⟨rfl, H.ext⟩
      | true =>
        obtain ⟨k1, k2, k3⟩ := msg_back (h3 rfl)
        have k8 := k1.1
        refine brT (ldAt0 H 0 rfl x5.kind rfl (ldAt H 0 rfl x5.frm rfl (ldAt H 0 rfl x5.to rfl (ldAt H 0 rfl x5.term rfl (ldAt H 0 rfl x5.index rfl (ldAt H 0 rfl x5.lterm rfl (ldAt H 0 rfl x5.commit rfl (ldAt H 0 rfl x5.yes rfl (ldAt H 0 rfl sm rfl ?_)))))))))
        refine wire_Message_ok (H.rdo 1 rfl) (by omega) (fun hno => absurd k1 hno) fun _ s4 h4 o4 f4 e4 => ?_
        refine brN rfl (toS BT o4.rd (toS BT ((H.ext' e4).arg hb) (brN ?_ ⟨rfl, (H.ext' e4).ext⟩)))
        have e : l = msgB x5 := k3
        rw [e]; simp
    · cases r9 with
      | false => exact brF H
      | true =>
        obtain ⟨k1, k2, k3⟩ := rep_back (h2 rfl)
        refine brT (ldAt0 H 2 rfl x3.code rfl (ldAt H 2 rfl x3.state rfl (ldAt H 2 rfl (strB x3.value) rfl (ldAt H 2 rfl x3.has rfl ?_))))
        refine wire_Reply_ok (fun hno => absurd k1 hno) fun _ s4 h4 o4 f4 e4 => ?_
        refine brN rfl (toS BT o4.rd (toS BT ((H.ext' e4).arg hb) (brN ?_ (H.ext' e4))))
        have e : l = repB x3 := k3
        rw [e]; simp
  · cases r4 with
    | false => exact brF H
    | true =>
      obtain ⟨k1, k2, k3⟩ := cmd_back (h1 rfl)
      refine brT (ldAt0 H 3 rfl x1.kind rfl (ldAt H 3 rfl x1.tx rfl (ldAt H 3 rfl x1.att rfl (ldAt H 3 rfl x1.stamp rfl (ldAt H 3 rfl x1.op rfl (ldAt H 3 rfl (strB x1.key) rfl (ldAt H 3 rfl (strB x1.value) rfl (ldAt H 3 rfl x1.mode rfl (ldAt H 3 rfl x1.yes rfl ?_)))))))))
      refine wire_Command_ok (fun hno => absurd k1 hno) fun _ s4 h4 o4 f4 e4 => ?_
      refine brN rfl (toS BT o4.rd (toS BT ((H.ext' e4).arg hb) (brN ?_ (H.ext' e4))))
      have e : l = cmdB x1 := k3
      rw [e]; simp
end
set_option maxRecDepth 100000 in
set_option maxHeartbeats 4000000 in
theorem law18_WireCommands_ok {kc kd : KL [.int .i64, .int .i64, .int .i64, .int .i64, .int .i64, .str, .str, .int .i64, .bool]} {kr : KL [.int .i64, .int .i64, .str, .bool]} {hB : Heap} {c d : Cmd} {r : Rep} (w0 : kc = c.kl ∧ c.key.length ≤ 140737488351232 ∧ c.value.length ≤ 140737488351232 ∧ c.i64) (w1 : kd = d.kl ∧ d.key.length ≤ 140737488351232 ∧ d.value.length ≤ 140737488351232 ∧ d.i64) (w2 : kr = r.kl ∧ r.value.length ≤ 140737488351232 ∧ r.i64) :
    C_law18_WireCommands kc kd kr hB fun r h' => r = true ∧ Ext hB.size hB h' := by
  refine A_law18_WireCommands ?_
  unfold S_law18_WireCommands
  obtain ⟨rfl, kc1, kc2, kci⟩ := w0
  obtain ⟨rfl, kd1, kd2, kdi⟩ := w1
  obtain ⟨rfl, kr1, kri⟩ := w2
  refine allocAt (At.start hB) fun h1 p1 H => allocAt H fun h2 p2 H => allocAt H fun h3 p3 H => law18_fixed_ok fun h4 e4 => brN rfl ?_
  have H := H.ext' e4
  have H : At hB h4 [.blk p3 58 r.cells, .blk p2 56 d.cells, .blk p1 56 c.cells] := H
  refine ldAt H 2 rfl (strB c.key) rfl (ldAt H 2 rfl (strB c.value) rfl ?_)
  rw [strB_size, strB_size, w64 (by omega) (by omega)]
  refine brD (fun _ => ⟨rfl, H.ext⟩) fun hc1 => ldAt H 1 rfl (strB d.key) rfl (ldAt H 1 rfl (strB d.value) rfl ?_)
  rw [strB_size, strB_size, w64 (by omega) (by omega)]
  refine brD (fun _ => ⟨rfl, H.ext⟩) fun hc2 => ldAt H 0 rfl (strB r.value) rfl ?_
  rw [strB_size]
  refine brD (fun _ => ⟨rfl, H.ext⟩) fun hc3 => ?_
  refine ldAt0 H 2 rfl c.kind rfl (ldAt H 2 rfl c.tx rfl (ldAt H 2 rfl c.att rfl (ldAt H 2 rfl c.stamp rfl (ldAt H 2 rfl c.op rfl (ldAt H 2 rfl (strB c.key) rfl (ldAt H 2 rfl (strB c.value) rfl (ldAt H 2 rfl c.mode rfl (ldAt H 2 rfl c.yes rfl ?_))))))))
  refine wire_Command_ok (fun hno h5 e5 => ?_) fun hfit s5 h5 o5 f5 e5 => ?_
  · have H := H.ext' e5
    refine ldAt0 H 2 rfl c.kind rfl (ldAt H 2 rfl c.tx rfl (ldAt H 2 rfl c.att rfl (ldAt H 2 rfl c.stamp rfl (ldAt H 2 rfl c.op rfl (ldAt H 2 rfl (strB c.key) rfl (ldAt H 2 rfl (strB c.value) rfl (ldAt H 2 rfl c.mode rfl (ldAt H 2 rfl c.yes rfl ?_))))))))
    refine ref18_Command_ok (by omega) (by omega) fun v h6 e6 hv => ?_
    have H := H.ext' e6
    cases v with
    | true => exact absurd (hv.1 rfl) hno
    | false =>
      refine join0 (fun h' => At hB h' [.blk p3 58 r.cells, .blk p2 56 d.cells, .blk p1 56 c.cells]) (fun _ h7 H => ?_) (brT (brN rfl (brN (by decide) H)))
      refine ldAt0 H 1 rfl d.kind rfl (ldAt H 1 rfl d.tx rfl (ldAt H 1 rfl d.att rfl (ldAt H 1 rfl d.stamp rfl (ldAt H 1 rfl d.op rfl (ldAt H 1 rfl (strB d.key) rfl (ldAt H 1 rfl (strB d.value) rfl (ldAt H 1 rfl d.mode rfl (ldAt H 1 rfl d.yes rfl ?_))))))))
      refine wire_Command_ok (fun _ h8 e8 => ?_) fun _ s8 h8 o8 f8 e8 => ?_
      · exact brF (RepW_ok (H.ext' e8) (by omega) kri)
      · exact brF (RepW_ok (H.ext' e8) (by omega) kri)
  · have H := H.new e5 (r := .own s5 1 (cB (cmdB c))) o5 f5
    refine ldAt0 H 3 rfl c.kind rfl (ldAt H 3 rfl c.tx rfl (ldAt H 3 rfl c.att rfl (ldAt H 3 rfl c.stamp rfl (ldAt H 3 rfl c.op rfl (ldAt H 3 rfl (strB c.key) rfl (ldAt H 3 rfl (strB c.value) rfl (ldAt H 3 rfl c.mode rfl (ldAt H 3 rfl c.yes rfl ?_))))))))
    refine ref18_Command_ok (by omega) (by omega) fun v h6 e6 hv => ?_
    have H := H.ext' e6
    obtain rfl : v = true := hv.2 hfit
    have hput : cmdR (cmdB c) = some c := cmd_put hfit kci
    refine join0 (fun h' => At hB h' [.own s5 1 (cB (cmdB c)), .blk p3 58 r.cells, .blk p2 56 d.cells, .blk p1 56 c.cells]) (fun _ h7 H => ?_) ?_
    · refine ldAt0 H 2 rfl d.kind rfl (ldAt H 2 rfl d.tx rfl (ldAt H 2 rfl d.att rfl (ldAt H 2 rfl d.stamp rfl (ldAt H 2 rfl d.op rfl (ldAt H 2 rfl (strB d.key) rfl (ldAt H 2 rfl (strB d.value) rfl (ldAt H 2 rfl d.mode rfl (ldAt H 2 rfl d.yes rfl ?_))))))))
      refine wire_Command_ok (fun _ h8 e8 => ?_) fun hfd s8 h8 o8 f8 e8 => ?_
      · have H := H.ext' e8
        exact brT (brN rfl (RepW_ok (H.del 0) (by omega) kri))
      · have H := H.new e8 (r := .own s8 1 (cB (cmdB d))) o8 f8
        refine brT (brY rfl (toS BT (H.rdo 0 rfl) (toS BT (H.rdo 1 rfl) ?_)))
        refine ldAt0 H 4 rfl c.kind rfl (ldAt H 4 rfl c.tx rfl (ldAt H 4 rfl c.att rfl (ldAt H 4 rfl c.stamp rfl (ldAt H 4 rfl c.op rfl (ldAt H 4 rfl (strB c.key) rfl (ldAt H 4 rfl (strB c.value) rfl (ldAt H 4 rfl c.mode rfl (ldAt H 4 rfl c.yes rfl ?_))))))))
        refine ldAt0 H 3 rfl d.kind rfl (ldAt H 3 rfl d.tx rfl (ldAt H 3 rfl d.att rfl (ldAt H 3 rfl d.stamp rfl (ldAt H 3 rfl d.op rfl (ldAt H 3 rfl (strB d.key) rfl (ldAt H 3 rfl (strB d.value) rfl (ldAt H 3 rfl d.mode rfl (ldAt H 3 rfl d.yes rfl ?_))))))))
        refine opEql (us := c.cells) (vs := d.cells) (by kernel_rfl) (brN ?_ (RepW_ok ((H.del 0).del 0) (by omega) kri))
        have e : ((strB (cmdB d)).toList == (strB (cmdB c)).toList) = eqL c.cells d.cells := by
          rw [Bool.eq_iff_iff, strB_toList, strB_toList, beq_iff_eq, cmd_eqL]
          exact ⟨fun x => (cmd_inj hfd kdi hfit kci x).symm, fun x => by rw [x]⟩
        have e' : ((strB (cmdB ⟨d.kind, d.tx, d.att, d.stamp, d.op, d.key, d.value, d.mode, d.yes⟩)).toList == (strB (cmdB c)).toList) = eqL c.cells d.cells := e
        rw [e']
        simp
    · refine brF (wire_ReadCommand_ok (H.rdo 0 rfl) (H.own 0 rfl).2.1 (fun hn => by rw [hput] at hn; cases hn) fun m hm h7 e7 => ?_)
      rw [hput] at hm
      injection hm with hm
      subst hm
      have H := H.ext' e7
      refine allocAt H fun h8 p8 H => ?_
      repeat (first | with_reducible refine nn ?_ | with_reducible refine let_ ?_ | with_reducible refine brSome ?_ | with_reducible refine brF ?_ | with_reducible refine brT ?_ | ((with_reducible apply ldAt H 0); exact rfl; exact rfl) | ((with_reducible apply ldAt0 H 0); exact rfl; exact rfl) | ((with_reducible apply stAt H 0); exact rfl; exact rfl; intro h H; (try dsimp only [List.set] at H)) | ((with_reducible apply stAt0 H 0); exact rfl; exact rfl; intro h H; (try dsimp only [List.set] at H)) | ((with_reducible apply allocAt H); intro h b H) | ((with_reducible refine ⟨?_, ?_⟩); first | ((with_reducible apply ldAt H 0); exact rfl; exact rfl; exact rfl) | ((with_reducible apply ldAt0 H 0); exact rfl; exact rfl; exact rfl)))
      rename Heap => hw
      have H : At hB hw [.blk p8 56 c.cells, .own s5 1 (cB (cmdB c)), .blk p3 58 r.cells, .blk p2 56 d.cells, .blk p1 56 c.cells] := H
      refine brN rfl (toS BT (H.rdo 1 rfl) (brN (by simp) (brN rfl ?_)))
      refine ldAt0 H 0 rfl c.kind rfl (ldAt H 0 rfl c.tx rfl (ldAt H 0 rfl c.att rfl (ldAt H 0 rfl c.stamp rfl (ldAt H 0 rfl c.op rfl (ldAt H 0 rfl (strB c.key) rfl (ldAt H 0 rfl (strB c.value) rfl (ldAt H 0 rfl c.mode rfl (ldAt H 0 rfl c.yes rfl ?_))))))))
      refine ldAt0 H 4 rfl c.kind rfl (ldAt H 4 rfl c.tx rfl (ldAt H 4 rfl c.att rfl (ldAt H 4 rfl c.stamp rfl (ldAt H 4 rfl c.op rfl (ldAt H 4 rfl (strB c.key) rfl (ldAt H 4 rfl (strB c.value) rfl (ldAt H 4 rfl c.mode rfl (ldAt H 4 rfl c.yes rfl ?_))))))))
      exact opNeq (us := c.cells) (vs := c.cells) (by kernel_rfl) (brN (by rw [(cmd_eqL _ _).2 rfl]; rfl) H.tail)
end Go.Proofs.Ytnognoiaakiepaa
