/-
  Layer 18 (wire): the laws' arguments; WirePackets, WireMessages over the heap alone.
-/
import Derived.Test.YtnognoiaakiepaaXe
import Derived.Test.YtnognoiaakiepaaEnd
namespace Go.Proofs.Ytnognoiaakiepaa
open Go

structure MsA where
  m : Msg
  s : Sl
def MsA.kl (a : MsA) : KL [.int .i64, .int .i64, .int .i64, .int .i64, .int .i64, .int .i64, .int .i64, .bool, .sl] := (a.m.kind, a.m.frm, a.m.to, a.m.term, a.m.index, a.m.lterm, a.m.commit, a.m.yes, a.s, ())
section
open Go.ChangeShapes Go.WideShapes
variable {H : Type} {enc : TypeId × Value → H} {w : World} {b0 : Nat} {v : Value} {d : DataW H} {ps : List MemPlace}
set_option maxRecDepth 100000 in
theorem els_entryR : ElS enc Try.prog w 90 fun cs => ∃ a : Ent, cs = eEN.cells a ∧ i64ok a.t := by
  refine els_st Try.underlying90 fun cs hl hf => ?_
  have hl3 : cs.length = 2 := hl.trans (by kernel_rfl)
  match cs, hl3 with
  | [c0, c1], _ =>
    obtain ⟨_, _, h0, _⟩ := hf 0 _ rfl
    obtain ⟨_, x1, h1, f1⟩ := hf 1 _ rfl
    obtain ⟨n0, e0, w0⟩ := el_int Try.underlying3 _ _ _ h0
    obtain ⟨s, e1, w1⟩ := els_str Try.underlying9 _ _ _ h1 f1
    have e0' : [c0] = [Value.int .i64 n0] := e0
    have e1' : [c1] = [Value.string s] := e1
    simp only [List.cons.injEq, and_true] at e0' e1'
    subst e0' e1'
    refine ⟨⟨n0, s.data.toList⟩, ?_, wf_bd w0⟩
    show [Value.int .i64 n0, .string s] = [Value.int .i64 n0, .string (strB s.data.toList)]
    rw [strB_of]
set_option maxRecDepth 100000 in
theorem els_entsR : ElS enc Try.prog w 79 fun cs => ∃ (s : Sl) (es : List Ent), cs = [s.v] ∧ RdS w.heap 2 s (eEN.fl es) ∧ s.c ≤ 140737488351232 ∧ s.n ≤ s.c ∧ ∀ e ∈ es, i64ok e.t :=
  els_map (els_sl (sz := 2) Try.underlying79 (by kernel_rfl) (by decide) (of_decide_eq_true (by kernel_rfl)) els_entryR) fun cs ⟨s, css, h1, h2, h3, h4, h6⟩ => by
    obtain ⟨es, h7, h8, _⟩ := cells_of eEN.cells (fun a => i64ok a.t) fun c hc => (h3 c hc).2
    rw [h7] at h4
    exact ⟨s, es, h1, h4.rd, h6, h4.le, h8⟩
set_option maxRecDepth 100000 in
theorem els_msg : ElS enc Try.prog w 81 fun cs => ∃ a : MsA, cs = KL.vals _ a.kl ∧ RdS w.heap 2 a.s (eEN.fl a.m.es) ∧ a.m.es.length ≤ 140737488351232 ∧ a.m.i64 := by
  refine els_st Try.underlying81 fun cs hl hf => ?_
  have hl3 : cs.length = 9 := hl.trans (by kernel_rfl)
  match cs, hl3 with
  | [c0, c1, c2, c3, c4, c5, c6, c7, c8], _ =>
    obtain ⟨_, _, h0, _⟩ := hf 0 _ rfl
    obtain ⟨_, _, h1, _⟩ := hf 1 _ rfl
    obtain ⟨_, _, h2, _⟩ := hf 2 _ rfl
    obtain ⟨_, _, h3, _⟩ := hf 3 _ rfl
    obtain ⟨_, _, h4, _⟩ := hf 4 _ rfl
    obtain ⟨_, _, h5, _⟩ := hf 5 _ rfl
    obtain ⟨_, _, h6, _⟩ := hf 6 _ rfl
    obtain ⟨_, _, h7, _⟩ := hf 7 _ rfl
    obtain ⟨_, x8, h8, f8⟩ := hf 8 _ rfl
    obtain ⟨n0, e0, w0⟩ := el_int Try.underlying3 _ _ _ h0
    obtain ⟨n1, e1, w1⟩ := el_int Try.underlying3 _ _ _ h1
    obtain ⟨n2, e2, w2⟩ := el_int Try.underlying3 _ _ _ h2
    obtain ⟨n3, e3, w3⟩ := el_int Try.underlying3 _ _ _ h3
    obtain ⟨n4, e4, w4⟩ := el_int Try.underlying3 _ _ _ h4
    obtain ⟨n5, e5, w5⟩ := el_int Try.underlying3 _ _ _ h5
    obtain ⟨n6, e6, w6⟩ := el_int Try.underlying3 _ _ _ h6
    obtain ⟨n7, e7⟩ := el_bool Try.underlying4 _ _ _ h7
    obtain ⟨s, es, e8, r8, c8', l8, g8⟩ := els_entsR _ _ _ h8 f8
    have e0' : [c0] = [Value.int .i64 n0] := e0
    have e1' : [c1] = [Value.int .i64 n1] := e1
    have e2' : [c2] = [Value.int .i64 n2] := e2
    have e3' : [c3] = [Value.int .i64 n3] := e3
    have e4' : [c4] = [Value.int .i64 n4] := e4
    have e5' : [c5] = [Value.int .i64 n5] := e5
    have e6' : [c6] = [Value.int .i64 n6] := e6
    have e7' : [c7] = [Value.bool n7] := e7
    have e8' : [c8] = [s.v] := e8
    simp only [List.cons.injEq, and_true] at e0' e1' e2' e3' e4' e5' e6' e7' e8'
    subst e0' e1' e2' e3' e4' e5' e6' e7' e8'
    have := rdn r8
    exact ⟨⟨⟨n0, n1, n2, n3, n4, n5, n6, n7, es⟩, s⟩, rfl, r8, by show es.length ≤ _; omega, wf_bd w0, wf_bd w1, wf_bd w2, wf_bd w3, wf_bd w4, wf_bd w5, wf_bd w6, g8⟩
set_option maxRecDepth 100000 in
theorem args_msg (hval : Value.okWide Try.prog w .any b0 81 v) (hd : DataW.Trod enc Try.prog w 0 (fun _ => true) true 81 v d ps) (hf : Fits Try.prog 81 d) :
    ∃ (r : KL [.int .i64, .int .i64, .int .i64, .int .i64, .int .i64, .int .i64, .int .i64, .bool, .sl]) (a : MsA), v = .agg ⟨KL.vals [.int .i64, .int .i64, .int .i64, .int .i64, .int .i64, .int .i64, .int .i64, .bool, .sl] r⟩ ∧ r = a.kl ∧ RdS w.heap 2 a.s (eEN.fl a.m.es) ∧ a.m.es.length ≤ 140737488351232 ∧ a.m.i64 := by
  obtain ⟨cs, rfl, _⟩ := okWide_struct Try.underlying81 hval
  obtain ⟨fuel, hd⟩ := hd
  obtain ⟨a, h1, h2, h3, h4⟩ := els_msg _ _ _ hd hf
  have h1' : cs.toList = KL.vals _ a.kl := h1
  refine ⟨a.kl, a, ?_, rfl, h2, h3, h4⟩
  congr 1
  rw [← Array.toArray_toList (xs := cs), h1']
set_option maxRecDepth 100000 in
theorem els_cmd : ElS enc Try.prog w 56 fun cs => ∃ a : Cmd, cs = KL.vals _ a.kl ∧ a.key.length ≤ 140737488351232 ∧ a.value.length ≤ 140737488351232 ∧ a.i64 := by
  refine els_st Try.underlying56 fun cs hl hf => ?_
  have hl3 : cs.length = 9 := hl.trans (by kernel_rfl)
  match cs, hl3 with
  | [c0, c1, c2, c3, c4, c5, c6, c7, c8], _ =>
    obtain ⟨_, _, h0, _⟩ := hf 0 _ rfl
    obtain ⟨_, _, h1, _⟩ := hf 1 _ rfl
    obtain ⟨_, _, h2, _⟩ := hf 2 _ rfl
    obtain ⟨_, _, h3, _⟩ := hf 3 _ rfl
    obtain ⟨_, _, h4, _⟩ := hf 4 _ rfl
    obtain ⟨_, x5, h5, f5⟩ := hf 5 _ rfl
    obtain ⟨_, x6, h6, f6⟩ := hf 6 _ rfl
    obtain ⟨_, _, h7, _⟩ := hf 7 _ rfl
    obtain ⟨_, _, h8, _⟩ := hf 8 _ rfl
    obtain ⟨n0, e0, w0⟩ := el_int Try.underlying3 _ _ _ h0
    obtain ⟨n1, e1, w1⟩ := el_int Try.underlying3 _ _ _ h1
    obtain ⟨n2, e2, w2⟩ := el_int Try.underlying3 _ _ _ h2
    obtain ⟨n3, e3, w3⟩ := el_int Try.underlying3 _ _ _ h3
    obtain ⟨n4, e4, w4⟩ := el_int Try.underlying3 _ _ _ h4
    obtain ⟨s5, e5, w5⟩ := els_str Try.underlying9 _ _ _ h5 f5
    obtain ⟨s6, e6, w6⟩ := els_str Try.underlying9 _ _ _ h6 f6
    obtain ⟨n7, e7, w7⟩ := el_int Try.underlying3 _ _ _ h7
    obtain ⟨n8, e8⟩ := el_bool Try.underlying4 _ _ _ h8
    have e0' : [c0] = [Value.int .i64 n0] := e0
    have e1' : [c1] = [Value.int .i64 n1] := e1
    have e2' : [c2] = [Value.int .i64 n2] := e2
    have e3' : [c3] = [Value.int .i64 n3] := e3
    have e4' : [c4] = [Value.int .i64 n4] := e4
    have e5' : [c5] = [Value.string s5] := e5
    have e6' : [c6] = [Value.string s6] := e6
    have e7' : [c7] = [Value.int .i64 n7] := e7
    have e8' : [c8] = [Value.bool n8] := e8
    simp only [List.cons.injEq, and_true] at e0' e1' e2' e3' e4' e5' e6' e7' e8'
    subst e0' e1' e2' e3' e4' e5' e6' e7' e8'
    refine ⟨⟨n0, n1, n2, n3, n4, s5.data.toList, s6.data.toList, n7, n8⟩, ?_, w5, w6, wf_bd w0, wf_bd w1, wf_bd w2, wf_bd w3, wf_bd w4, wf_bd w7⟩
    show [Value.int .i64 n0, .int .i64 n1, .int .i64 n2, .int .i64 n3, .int .i64 n4, .string s5, .string s6, .int .i64 n7, .bool n8] = [Value.int .i64 n0, .int .i64 n1, .int .i64 n2, .int .i64 n3, .int .i64 n4, .string (strB s5.data.toList), .string (strB s6.data.toList), .int .i64 n7, .bool n8]
    rw [strB_of, strB_of]
set_option maxRecDepth 100000 in
theorem args_cmd (hval : Value.okWide Try.prog w .any b0 56 v) (hd : DataW.Trod enc Try.prog w 0 (fun _ => true) true 56 v d ps) (hf : Fits Try.prog 56 d) :
    ∃ (r : KL [.int .i64, .int .i64, .int .i64, .int .i64, .int .i64, .str, .str, .int .i64, .bool]) (a : Cmd), v = .agg ⟨KL.vals [.int .i64, .int .i64, .int .i64, .int .i64, .int .i64, .str, .str, .int .i64, .bool] r⟩ ∧ r = a.kl ∧ a.key.length ≤ 140737488351232 ∧ a.value.length ≤ 140737488351232 ∧ a.i64 := by
  obtain ⟨cs, rfl, _⟩ := okWide_struct Try.underlying56 hval
  obtain ⟨fuel, hd⟩ := hd
  obtain ⟨a, h1, h2, h3, h4⟩ := els_cmd _ _ _ hd hf
  have h1' : cs.toList = KL.vals _ a.kl := h1
  refine ⟨a.kl, a, ?_, rfl, h2, h3, h4⟩
  congr 1
  rw [← Array.toArray_toList (xs := cs), h1']
set_option maxRecDepth 100000 in
theorem els_rep : ElS enc Try.prog w 58 fun cs => ∃ a : Rep, cs = KL.vals _ a.kl ∧ a.value.length ≤ 140737488351232 ∧ a.i64 := by
  refine els_st Try.underlying58 fun cs hl hf => ?_
  have hl3 : cs.length = 4 := hl.trans (by kernel_rfl)
  match cs, hl3 with
  | [c0, c1, c2, c3], _ =>
    obtain ⟨_, _, h0, _⟩ := hf 0 _ rfl
    obtain ⟨_, _, h1, _⟩ := hf 1 _ rfl
    obtain ⟨_, x2, h2, f2⟩ := hf 2 _ rfl
    obtain ⟨_, _, h3, _⟩ := hf 3 _ rfl
    obtain ⟨n0, e0, w0⟩ := el_int Try.underlying27 _ _ _ h0
    obtain ⟨n1, e1, w1⟩ := el_int Try.underlying3 _ _ _ h1
    obtain ⟨s2, e2, w2⟩ := els_str Try.underlying9 _ _ _ h2 f2
    obtain ⟨n3, e3⟩ := el_bool Try.underlying4 _ _ _ h3
    have e0' : [c0] = [Value.int .i64 n0] := e0
    have e1' : [c1] = [Value.int .i64 n1] := e1
    have e2' : [c2] = [Value.string s2] := e2
    have e3' : [c3] = [Value.bool n3] := e3
    simp only [List.cons.injEq, and_true] at e0' e1' e2' e3'
    subst e0' e1' e2' e3'
    refine ⟨⟨n0, n1, s2.data.toList, n3⟩, ?_, w2, wf_bd w0, wf_bd w1⟩
    show [Value.int .i64 n0, .int .i64 n1, .string s2, .bool n3] = [Value.int .i64 n0, .int .i64 n1, .string (strB s2.data.toList), .bool n3]
    rw [strB_of]
set_option maxRecDepth 100000 in
theorem args_rep (hval : Value.okWide Try.prog w .any b0 58 v) (hd : DataW.Trod enc Try.prog w 0 (fun _ => true) true 58 v d ps) (hf : Fits Try.prog 58 d) :
    ∃ (r : KL [.int .i64, .int .i64, .str, .bool]) (a : Rep), v = .agg ⟨KL.vals [.int .i64, .int .i64, .str, .bool] r⟩ ∧ r = a.kl ∧ a.value.length ≤ 140737488351232 ∧ a.i64 := by
  obtain ⟨cs, rfl, _⟩ := okWide_struct Try.underlying58 hval
  obtain ⟨fuel, hd⟩ := hd
  obtain ⟨a, h1, h2, h3⟩ := els_rep _ _ _ hd hf
  have h1' : cs.toList = KL.vals _ a.kl := h1
  refine ⟨a.kl, a, ?_, rfl, h2, h3⟩
  congr 1
  rw [← Array.toArray_toList (xs := cs), h1']
set_option maxRecDepth 100000 in
theorem args_u8s (hval : Value.okWide Try.prog w .any b0 22 v) (hd : DataW.Trod enc Try.prog w 0 (fun _ => true) true 22 v d ps) (hf : Fits Try.prog 22 d) :
    ∃ (s : Sl) (xs : List UInt8), v = s.v ∧ Arg w.heap 1 s (cB xs) ∧ s.below w.heap.size ∧ s.c ≤ 140737488351232 :=
  args_bytes Try.underlying22 Try.underlying5 (by kernel_rfl) (of_decide_eq_true (by kernel_rfl)) hval hd hf
end
/-! ## The laws -/
set_option maxRecDepth 100000 in
theorem law18_WirePackets_ok {kind at_ by_ : Int} {payload raw : Sl} {hB : Heap} {xs l : List UInt8} (w0 : 0 ≤ kind ∧ kind ≤ 255) (w1 : Arg hB 1 payload (cB xs) ∧ payload.below hB.size ∧ payload.c ≤ 140737488351232) (w2 : -9223372036854775808 ≤ at_ ∧ at_ ≤ 9223372036854775807) (w3 : 0 ≤ by_ ∧ by_ ≤ 255) (w4 : Arg hB 1 raw (cB l) ∧ raw.below hB.size ∧ raw.c ≤ 140737488351232) :
    C_law18_WirePackets kind payload at_ by_ raw hB fun r h' => r = true ∧ Ext hB.size hB h' := by
  refine A_law18_WirePackets ?_
  unfold S_law18_WirePackets
  obtain ⟨k, rfl⟩ : ∃ n : UInt8, kind = n.toNat := ⟨UInt8.ofNat kind.toNat, by simp; omega⟩
  obtain ⟨y, rfl⟩ : ∃ n : UInt8, by_ = n.toNat := ⟨UInt8.ofNat by_.toNat, by simp; omega⟩
  obtain ⟨hp, _, _⟩ := w1
  obtain ⟨hr, _, _⟩ := w4
  have hpn := rd_b hp.rd
  have hrn := rd_b hr.rd
  refine law18_fixed_ok fun h0 e0 => brN rfl (brD (fun _ => ⟨rfl, e0⟩) fun hc1 => brD (fun _ => ⟨rfl, e0⟩) fun hc2 => ?_)
  have H := At.of_ext e0
  refine wire_ReadPacket_ok (H.arg hr.rd) hr.le (by omega) fun s1 h1 o1 f1 e1 => ?_
  have H := H.new e1 (r := .own s1 1 (cB (pktM l).2.1)) o1 f1
  refine ref18_ReadPacket_ok (H.arg hr.rd) hr.le (by omega) fun h2 e2 => ?_
  have H := H.ext' e2
  refine brN (by simp) (toS BT (H.rdo 0 rfl) (brN (by simp) (brN (by simp) ?_)))
  refine wire_Packet_ok (H.arg hp.rd) (by omega) fun s3 h3 o3 f3 e3 => ?_
  have H := H.new e3 (r := .own s3 1 (cB (frameM (k :: xs)))) o3 f3
  have hpk : pktM (frameM (k :: xs)) = (((k.toNat : Nat) : Int), xs, 0) := pktM_frame (by omega)
  have hfl := frameM_length (k :: xs)
  simp only [List.length_cons] at hfl
  refine wire_ReadPacket_ok (H.rdo 0 rfl) (H.own 0 rfl).2.1 (by omega) fun s4 h4 o4 f4 e4 => ?_
  rw [hpk] at o4 ⊢
  have H := H.new e4 (r := .own s4 1 (cB xs)) o4 f4
  have hn3 := rd_b (H.rdo (xs := cB (frameM (k :: xs))) 1 rfl)
  refine brN rfl (brN rfl (brN (by simp) (toS BT (H.rdo 0 rfl) (toS BT (H.arg hp.rd) (brN (by simp) (brN ?_ (br beq_iff_eq (fun _ => ⟨rfl, H.ext⟩) fun hy => ?_)))))))
  · rw [bne_eq_false_iff_eq, w64 (by omega) (by omega)]; omega
  rw [wu64 (n := (s3.n : Int)) (by omega) (by omega)]
  refine nz (by omega) ?_
  rw [rem_nonneg (by rw [wrU64]; omega)]
  have m0 : 0 ≤ IntKind.u64.wrap at_ % (s3.n : Int) := Int.emod_nonneg _ (by omega)
  have m1 : IntKind.u64.wrap at_ % (s3.n : Int) < (s3.n : Int) := Int.emod_lt_of_pos _ (by omega)
  rw [w64 (by omega) (by omega)]
  generalize IntKind.u64.wrap at_ % (s3.n : Int) = kk at *
  obtain ⟨i, rfl⟩ : ∃ i : Nat, kk = i := ⟨kk.toNat, by omega⟩
  have hi : i < (frameM (k :: xs)).length := by omega
  refine ixcB (H.rdo 1 rfl) i rfl hi ?_
  rw [xor_byte]
  refine stByte H 1 rfl i rfl hi _ fun h5 H => ?_
  have hbad : (pktM ((frameM (k :: xs)).set i ((frameM (k :: xs))[i] ^^^ y))).2.2 ≠ 0 := by
    refine pktM_bad ?_
    have := takeM_turn (k :: xs) [] i ((frameM (k :: xs))[i] ^^^ y) (by simp; omega) hi (by
      rw [List.getElem?_eq_getElem hi]
      exact fun e => xor_ne (c := y) (by omega) (Option.some.inj e).symm)
    rwa [List.append_nil] at this
  refine wire_ReadPacket_ok (H.rdo 1 rfl) (H.own 1 rfl).2.1 (by rw [List.length_set]; omega) fun s6 h6 o6 f6 e6 => ⟨?_, H.ext.trans (e6.mono H.ext.1)⟩
  rw [bne_iff_ne]
  exact hbad
set_option maxRecDepth 100000 in
set_option maxHeartbeats 2000000 in
theorem law18_WireMessages_ok {m : KL [.int .i64, .int .i64, .int .i64, .int .i64, .int .i64, .int .i64, .int .i64, .bool, .sl]} {hB : Heap} {a : MsA} (w0 : m = a.kl ∧ RdS hB 2 a.s (eEN.fl a.m.es) ∧ a.m.es.length ≤ 140737488351232 ∧ a.m.i64) : C_law18_WireMessages m hB fun r h' => r = true ∧ Ext hB.size hB h' := by
  refine A_law18_WireMessages ?_
  unfold S_law18_WireMessages
  obtain ⟨rfl, A, hl, hi⟩ := w0
  have hn := rdn A
  obtain ⟨⟨k, t, f, st, op, mo, cm, y, es⟩, sl⟩ := a
  simp only at A hl hn
  refine allocAt (At.start hB) fun h1 p1 H => law18_fixed_ok fun h2 e2 => brN rfl ?_
  have H := H.ext' e2
  have H : At hB h2 [.blk p1 81 [.int .i64 k, .int .i64 t, .int .i64 f, .int .i64 st, .int .i64 op, .int .i64 mo, .int .i64 cm, .bool y, .slice sl.a sl.n sl.c]] := H
  refine ldAt H 0 rfl sl rfl (brD (fun _ => ⟨rfl, H.ext⟩) fun hc12 => ldAt H 0 rfl sl rfl ?_)
  refine loop1 (s1 := .one (.int .i64)) (fun (x : Int) h3 => ∃ j : Nat, x = j ∧ j ≤ es.length ∧ At hB h3 [.blk p1 81 [.int .i64 k, .int .i64 t, .int .i64 f, .int .i64 st, .int .i64 op, .int .i64 mo, .int .i64 cm, .bool y, .slice sl.a sl.n sl.c]] ∧ ∀ e ∈ es.take j, e.d.length ≤ 700) (fun (x : Int) _ => (es.length - x).toNat)
    ⟨0, rfl, Nat.zero_le _, H, (fun e he => by cases he)⟩ fun _ (x : Int) h3 hI => ?_
  obtain ⟨j, rfl, hj, H, hle⟩ := hI
  refine brD (fun hc => ?_) fun hc => ?_
  · have hj2 : j < es.length := by omega
    refine ixR (H.arg A) j rfl hj2 fun e he => ?_
    repeat (first | with_reducible refine nn ?_ | with_reducible refine let_ ?_ | with_reducible refine brSome ?_ | with_reducible refine brF ?_ | with_reducible refine brT ?_ | ((with_reducible apply ldAt H 0); exact rfl; exact rfl) | ((with_reducible apply ldAt0 H 0); exact rfl; exact rfl) | ((with_reducible apply ldR (H.arg A)); assumption; (case hk => assumption); exact rfl) | ((with_reducible apply ldR0 (H.arg A)); assumption; (case hk => assumption); exact rfl) | ((with_reducible apply stAt H 0); exact rfl; exact rfl; intro h H; (try dsimp only [List.set] at H)) | ((with_reducible apply stAt0 H 0); exact rfl; exact rfl; intro h H; (try dsimp only [List.set] at H)) | ((with_reducible apply allocAt H); intro h b H) | ((with_reducible refine ⟨?_, ?_⟩); first | ((with_reducible apply ldAt H 0); exact rfl; exact rfl; exact rfl) | ((with_reducible apply ldAt0 H 0); exact rfl; exact rfl; exact rfl)))
    rw [strB_size]
    refine brD (fun _ => ⟨rfl, H.ext⟩) fun hc2 => ?_
    rw [w64 (by omega) (by omega)]
    exact ⟨⟨j + 1, by omega, by omega, H.tail, fa_snoc hle hj2 (by omega)⟩, by omega⟩
  · have hjl : j = es.length := by omega
    subst hjl
    rw [List.take_length] at hle
    refine ldAt0 H 0 rfl k rfl (ldAt H 0 rfl t rfl (ldAt H 0 rfl f rfl (ldAt H 0 rfl st rfl (ldAt H 0 rfl op rfl (ldAt H 0 rfl mo rfl (ldAt H 0 rfl cm rfl (ldAt H 0 rfl y rfl (ldAt H 0 rfl sl rfl ?_))))))))
    refine wire_Message_ok (H.arg A) (by omega) (fun hno h4 e4 => ?_) fun hfit s4 h4 o4 f4 e4 => ?_
    · have H := H.ext' e4
      refine ldAt0 H 0 rfl k rfl (ldAt H 0 rfl t rfl (ldAt H 0 rfl f rfl (ldAt H 0 rfl st rfl (ldAt H 0 rfl op rfl (ldAt H 0 rfl mo rfl (ldAt H 0 rfl cm rfl (ldAt H 0 rfl y rfl (ldAt H 0 rfl sl rfl ?_))))))))
      refine ref18_Message_ok (H.arg A) (by omega) (fun e he => by have := hle e he; omega) fun v h5 e5 hv => ?_
      have H := H.ext' e5
      cases v with
      | true => exact absurd (hv.1 rfl) hno
      | false => exact brT (join1 (s1 := .one .bool) (fun (x : Bool) h6 => x = true ∧ h6 = h5) (fun _ (x : Bool) h6 hJ => by obtain ⟨rfl, rfl⟩ := hJ; exact ⟨rfl, H.ext⟩) (brY rfl ⟨rfl, rfl⟩))
    · have H := H.new e4 (r := .own s4 1 (cB (msgB ⟨k, t, f, st, op, mo, cm, y, es⟩))) o4 f4
      refine ldAt0 H 1 rfl k rfl (ldAt H 1 rfl t rfl (ldAt H 1 rfl f rfl (ldAt H 1 rfl st rfl (ldAt H 1 rfl op rfl (ldAt H 1 rfl mo rfl (ldAt H 1 rfl cm rfl (ldAt H 1 rfl y rfl (ldAt H 1 rfl sl rfl ?_))))))))
      refine ref18_Message_ok (H.arg A) (by omega) (fun e he => by have := hle e he; omega) fun v h5 e5 hv => ?_
      have H := H.ext' e5
      obtain rfl : v = true := hv.2 hfit
      have hput := msg_put hfit hi
      refine brF (wire_ReadMessage_ok (H.rdo 0 rfl) (H.own 0 rfl).2.1 (fun hn => by rw [hput] at hn; cases hn) fun m hm out h6 o6 f6 e6 => ?_)
      rw [hput] at hm
      injection hm with hm
      subst hm
      have H := H.new e6 (r := .own out 2 (eEN.fl es)) o6 f6
      refine allocAt H fun h7 p7 H => ?_
      repeat (first | with_reducible refine nn ?_ | with_reducible refine let_ ?_ | with_reducible refine brSome ?_ | with_reducible refine brF ?_ | with_reducible refine brT ?_ | ((with_reducible apply ldAt H 0); exact rfl; exact rfl) | ((with_reducible apply ldAt0 H 0); exact rfl; exact rfl) | ((with_reducible apply stAt H 0); exact rfl; exact rfl; intro h H; (try dsimp only [List.set] at H)) | ((with_reducible apply stAt0 H 0); exact rfl; exact rfl; intro h H; (try dsimp only [List.set] at H)) | ((with_reducible apply allocAt H); intro h b H) | ((with_reducible refine ⟨?_, ?_⟩); first | ((with_reducible apply ldAt H 0); exact rfl; exact rfl; exact rfl) | ((with_reducible apply ldAt0 H 0); exact rfl; exact rfl; exact rfl)))
      rename Heap => hw
      have H : At hB hw [.blk p7 81 [.int .i64 k, .int .i64 t, .int .i64 f, .int .i64 st, .int .i64 op, .int .i64 mo, .int .i64 cm, .bool y, .slice out.a out.n out.c], .own out 2 (eEN.fl es), .own s4 1 (cB (msgB ⟨k, t, f, st, op, mo, cm, y, es⟩)), .blk p1 81 [.int .i64 k, .int .i64 t, .int .i64 f, .int .i64 st, .int .i64 op, .int .i64 mo, .int .i64 cm, .bool y, .slice sl.a sl.n sl.c]] := H
      refine brY rfl (toS BT (H.rdo 2 rfl) (brY (by simp) (brY rfl ?_)))
      refine ldAt0 H 0 rfl k rfl (ldAt H 0 rfl t rfl (ldAt H 0 rfl f rfl (ldAt H 0 rfl st rfl (ldAt H 0 rfl op rfl (ldAt H 0 rfl mo rfl (ldAt H 0 rfl cm rfl (ldAt H 0 rfl y rfl (ldAt H 0 rfl out rfl ?_))))))))
      refine ldAt0 H 3 rfl k rfl (ldAt H 3 rfl t rfl (ldAt H 3 rfl f rfl (ldAt H 3 rfl st rfl (ldAt H 3 rfl op rfl (ldAt H 3 rfl mo rfl (ldAt H 3 rfl cm rfl (ldAt H 3 rfl y rfl (ldAt H 3 rfl sl rfl ?_))))))))
      exact ref18_Same_ok (H.rdo 1 rfl) (H.arg A) (by omega) fun w h8 e8 hw => ⟨hw rfl, H.ext.trans (e8.mono H.ext.1)⟩
end Go.Proofs.Ytnognoiaakiepaa
