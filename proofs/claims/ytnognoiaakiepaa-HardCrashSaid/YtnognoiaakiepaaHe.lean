/-
  Layer 6 (hard): the laws' arguments: saves.
-/
import Derived.Test.YtnognoiaakiepaaHd
namespace Go.Proofs.Ytnognoiaakiepaa
open Go

/-- A row of saves, as an argument. -/
def ArgV (h : Heap) (s : Sl) (bs : List SvA) : Prop := RdS h 5 s (eSV.fl bs) ∧ ∀ a ∈ bs, RdS h 2 a.s (eEN.fl a.es) ∧ a.es.length ≤ 140737488351232
section
open Go.ChangeShapes Go.WideShapes
variable {H : Type} {enc : TypeId × Value → H} {w : World} {b0 : Nat} {v : Value} {d : DataW H} {ps : List MemPlace}
set_option maxRecDepth 100000 in
theorem els_entry : ElS enc Try.prog w 90 fun cs => ∃ a : Ent, cs = eEN.cells a := by
  refine els_st Try.underlying90 fun cs hl hf => ?_
  have hl3 : cs.length = 2 := hl.trans (by kernel_rfl)
  match cs, hl3 with
  | [c0, c1], _ =>
    obtain ⟨_, _, h0, _⟩ := hf 0 _ rfl
    obtain ⟨_, x1, h1, f1⟩ := hf 1 _ rfl
    obtain ⟨n0, e0, w0⟩ := el_int Try.underlying3 _ _ _ h0
    obtain ⟨s, e1, w1⟩ := els_str Try.underlying9 _ _ _ h1 f1
    have e0' : [c0] = [Value.int .i64 n0] := e0
    have e1' : [c1] = [Value.string s] := e1
    simp only [List.cons.injEq, and_true] at e0' e1'
    subst e0' e1'
    refine ⟨⟨n0, s.data.toList⟩, ?_⟩
    show [Value.int .i64 n0, .string s] = [Value.int .i64 n0, .string (strB s.data.toList)]
    rw [strB_of]
set_option maxRecDepth 100000 in
theorem els_ents : ElS enc Try.prog w 79 fun cs => ∃ (s : Sl) (es : List Ent), cs = [s.v] ∧ RdS w.heap 2 s (eEN.fl es) ∧ s.c ≤ 140737488351232 ∧ s.n ≤ s.c :=
  els_map (els_sl (sz := 2) Try.underlying79 (by kernel_rfl) (by decide) (of_decide_eq_true (by kernel_rfl)) els_entry) fun cs ⟨s, css, h1, h2, h3, h4, h6⟩ => by
    obtain ⟨es, h7, _⟩ := cells_of eEN.cells (fun _ => True) fun c hc => by obtain ⟨a, ha⟩ := (h3 c hc).2; exact ⟨a, ha, trivial⟩
    rw [h7] at h4
    exact ⟨s, es, h1, h4.rd, h6, h4.le⟩
set_option maxRecDepth 100000 in
theorem els_save : ElS enc Try.prog w 111 fun cs => ∃ a : SvA, cs = eSV.cells a ∧ RdS w.heap 2 a.s (eEN.fl a.es) ∧ a.es.length ≤ 140737488351232 := by
  refine els_st Try.underlying111 fun cs hl hf => ?_
  have hl3 : cs.length = 5 := hl.trans (by kernel_rfl)
  match cs, hl3 with
  | [c0, c1, c2, c3, c4], _ =>
    obtain ⟨_, _, h0, _⟩ := hf 0 _ rfl
    obtain ⟨_, _, h1, _⟩ := hf 1 _ rfl
    obtain ⟨_, _, h2, _⟩ := hf 2 _ rfl
    obtain ⟨_, _, h3, _⟩ := hf 3 _ rfl
    obtain ⟨_, x4, h4, f4⟩ := hf 4 _ rfl
    obtain ⟨n0, e0⟩ := el_bool Try.underlying4 _ _ _ h0
    obtain ⟨n1, e1, _⟩ := el_int Try.underlying3 _ _ _ h1
    obtain ⟨n2, e2, _⟩ := el_int Try.underlying3 _ _ _ h2
    obtain ⟨n3, e3, _⟩ := el_int Try.underlying3 _ _ _ h3
    obtain ⟨s, es, e4, r4, c4', l4⟩ := els_ents _ _ _ h4 f4
    have e0' : [c0] = [Value.bool n0] := e0
    have e1' : [c1] = [Value.int .i64 n1] := e1
    have e2' : [c2] = [Value.int .i64 n2] := e2
    have e3' : [c3] = [Value.int .i64 n3] := e3
    have e4' : [c4] = [s.v] := e4
    simp only [List.cons.injEq, and_true] at e0' e1' e2' e3' e4'
    subst e0' e1' e2' e3' e4'
    have := rdn r4
    exact ⟨⟨n0, n1, n2, n3, s, es⟩, rfl, r4, by show es.length ≤ _; omega⟩
set_option maxRecDepth 100000 in
theorem args_saves (hval : Value.okWide Try.prog w .any b0 116 v) (hd : DataW.Trod enc Try.prog w 0 (fun _ => true) true 116 v d ps) (hf : Fits Try.prog 116 d) :
    ∃ (s : Sl) (bs : List SvA), v = s.v ∧ ArgV w.heap s bs := by
  obtain ⟨s, css, h1, _, h3, h4, _⟩ := args_sl (sz := 5) Try.underlying116 (by kernel_rfl) (by decide) (of_decide_eq_true (by kernel_rfl)) els_save hval hd hf
  obtain ⟨bs, h6, h7, _⟩ := cells_of eSV.cells _ fun c hc => (h3 c hc).2
  rw [h6] at h4
  exact ⟨s, bs, h1, h4.rd, h7⟩
set_option maxRecDepth 100000 in
theorem args_save (hval : Value.okWide Try.prog w .any b0 111 v) (hd : DataW.Trod enc Try.prog w 0 (fun _ => true) true 111 v d ps) (hf : Fits Try.prog 111 d) :
    ∃ (r : KL [.bool, .int .i64, .int .i64, .int .i64, .sl]) (a : SvA), v = .agg ⟨KL.vals [.bool, .int .i64, .int .i64, .int .i64, .sl] r⟩ ∧ r = (a.hard, a.term, a.vote, a.frm, a.s, ()) ∧ RdS w.heap 2 a.s (eEN.fl a.es) ∧ a.es.length ≤ 140737488351232 := by
  obtain ⟨cs, rfl, _⟩ := okWide_struct Try.underlying111 hval
  obtain ⟨fuel, hd⟩ := hd
  obtain ⟨a, h1, h2, h3⟩ := els_save _ _ _ hd hf
  have h1' : cs.toList = eSV.cells a := h1
  refine ⟨(a.hard, a.term, a.vote, a.frm, a.s, ()), a, ?_, rfl, h2, h3⟩
  congr 1
  rw [← Array.toArray_toList (xs := cs), h1']
  rfl
end
end Go.Proofs.Ytnognoiaakiepaa
