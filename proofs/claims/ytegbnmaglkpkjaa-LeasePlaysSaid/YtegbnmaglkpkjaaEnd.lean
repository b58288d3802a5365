/-
  From what a law's call comes to over the heap alone to what the row's step asks.
-/
import Derived.Test.YtegbnmaglkpkjaaRa
namespace Go.Proofs.Ytegbnmaglkpkjaa
open Go Go.RowKit
theorem row_calls {P : Program} {f : FuncId} {args : List Value} {w : World} (hc : CallR P f args w.heap [.one .bool] fun r h' => r = true ∧ Ext w.heap.size w.heap h') :
    Calls P f ⟨args⟩ w fun e w' => e = .returned (.bool true) ∧ Below w.heap.size w w' := by
  refine (hc w rfl).mono fun e w' ⟨hE, x, he, hx⟩ => ?_
  have h1 : x.1 = true := hx.1
  have h2 : Ext w.heap.size w.heap w'.heap := hx.2
  refine ⟨?_, hE.os, hE.tape, hE.output, h2.1, h2.2⟩
  rw [he]
  show Ending.returned (.bool x.1) = _
  rw [h1]
theorem wf_bd {n : Int} (h : (Lit.int .i64 n).wf = true) : -9223372036854775808 ≤ n ∧ n ≤ 9223372036854775807 := by
  simp [Lit.wf, IntKind.min, IntKind.max, IntKind.bits, IntKind.signed] at h; omega
theorem wf_u8 {n : Int} (h : (Lit.int .u8 n).wf = true) : 0 ≤ n ∧ n ≤ 255 := by
  simp [Lit.wf, IntKind.min, IntKind.max, IntKind.bits, IntKind.signed] at h; omega
theorem wf_u16 {n : Int} (h : (Lit.int .u16 n).wf = true) : 0 ≤ n ∧ n ≤ 65535 := by
  simp [Lit.wf, IntKind.min, IntKind.max, IntKind.bits, IntKind.signed] at h; omega
theorem wf_u32 {n : Int} (h : (Lit.int .u32 n).wf = true) : 0 ≤ n ∧ n ≤ 4294967295 := by
  simp [Lit.wf, IntKind.min, IntKind.max, IntKind.bits, IntKind.signed] at h; omega
theorem wf_u64 {n : Int} (h : (Lit.int .u64 n).wf = true) : 0 ≤ n ∧ n ≤ 18446744073709551615 := by
  simp [Lit.wf, IntKind.min, IntKind.max, IntKind.bits, IntKind.signed] at h; omega
end Go.Proofs.Ytegbnmaglkpkjaa
