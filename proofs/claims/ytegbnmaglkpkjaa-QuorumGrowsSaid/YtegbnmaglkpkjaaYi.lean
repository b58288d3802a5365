/-
  Layer 36 (quorum): the arguments; the laws QuorumTells and QuorumJoint.
-/
import Derived.Test.YtegbnmaglkpkjaaYh
import Derived.Test.YtegbnmaglkpkjaaH
import Derived.Test.YtegbnmaglkpkjaaEnd
namespace Go.Proofs.Ytegbnmaglkpkjaa
open Go

def eU8 : Enc Int 1 := ⟨fun a => [.int .u8 a], fun _ => rfl, by decide, fun x u hu => by
  simp only [List.mem_cons, List.not_mem_nil, or_false] at hu
  rcases hu with rfl; rfl⟩
section
open Go.ChangeShapes Go.WideShapes
variable {H : Type} {enc : TypeId × Value → H} {w : World} {b0 : Nat} {v : Value} {d : DataW H} {ps : List MemPlace}
set_option maxRecDepth 100000 in
theorem args_u8s (hval : Value.okWide Try.prog w .any b0 22 v) (hd : DataW.Trod enc Try.prog w 0 (fun _ => true) true 22 v d ps) (hf : Fits Try.prog 22 d) :
    ∃ (s : Sl) (xs : List Int), v = s.v ∧ (RdS w.heap 1 s (eU8.fl xs) ∧ ∀ x ∈ xs, 0 ≤ x ∧ x ≤ 255) := by
  obtain ⟨s, css, h1, _, h3, h4, _⟩ := args_sl (sz := 1) Try.underlying22 (by kernel_rfl) (by decide) (of_decide_eq_true (by kernel_rfl)) (els_int Try.underlying5) hval hd hf
  obtain ⟨xs, h6, h7, _⟩ := cells_of eU8.cells (fun x => 0 ≤ x ∧ x ≤ 255) fun c hc => by obtain ⟨_, b, hb, hw⟩ := h3 c hc; exact ⟨b, hb, wf_u8 hw⟩
  rw [h6] at h4
  exact ⟨s, xs, h1, h4.rd, h7⟩
set_option maxRecDepth 100000 in
theorem args_ints (hval : Value.okWide Try.prog w .any b0 51 v) (hd : DataW.Trod enc Try.prog w 0 (fun _ => true) true 51 v d ps) (hf : Fits Try.prog 51 d) :
    ∃ (s : Sl) (xs : List Int), v = s.v ∧ RdS w.heap 1 s (eN.fl xs) := by
  obtain ⟨s, css, h1, _, h3, h4, _⟩ := args_sl (sz := 1) Try.underlying51 (by kernel_rfl) (by decide) (of_decide_eq_true (by kernel_rfl)) (els_int Try.underlying3) hval hd hf
  obtain ⟨xs, h6, h7, _⟩ := cells_of eN.cells (fun x => True) fun c hc => by obtain ⟨_, b, hb, hw⟩ := h3 c hc; exact ⟨b, hb, trivial⟩
  rw [h6] at h4
  exact ⟨s, xs, h1, h4.rd⟩
end
theorem law36_QuorumTells_ok {l : Sl} {hB : Heap} {ws : List Int} {n k x : Int} (w0 : RdS hB 1 l (eN.fl ws)) (_w1 : -9223372036854775808 ≤ n ∧ n ≤ 9223372036854775807) (_w2 : -9223372036854775808 ≤ k ∧ k ≤ 9223372036854775807) (w3 : 0 ≤ x ∧ x ≤ 18446744073709551615) : C_law36_QuorumTells l n k x hB fun r h' => r = true ∧ Ext hB.size hB h' := by
  obtain ⟨y, rfl⟩ := Int.eq_ofNat_of_zero_le w3.1
  exact Tells_ok w0 (by omega) fun h' e => ⟨rfl, e⟩
theorem law36_QuorumJoint_ok {hB : Heap} {n a b rows cols x : Int} (_w0 : -9223372036854775808 ≤ n ∧ n ≤ 9223372036854775807) (w1 : 0 ≤ a ∧ a ≤ 18446744073709551615) (w2 : 0 ≤ b ∧ b ≤ 18446744073709551615) (_w3 : -9223372036854775808 ≤ rows ∧ rows ≤ 9223372036854775807) (_w4 : -9223372036854775808 ≤ cols ∧ cols ≤ 9223372036854775807) (w5 : 0 ≤ x ∧ x ≤ 18446744073709551615) : C_law36_QuorumJoint n a b rows cols x hB fun r h' => r = true ∧ Ext hB.size hB h' := by
  obtain ⟨y, rfl⟩ := Int.eq_ofNat_of_zero_le w5.1
  obtain ⟨a, rfl⟩ := Int.eq_ofNat_of_zero_le w1.1
  obtain ⟨b, rfl⟩ := Int.eq_ofNat_of_zero_le w2.1
  exact Joint_law (by omega) (by omega) (by omega) fun h' e => ⟨rfl, e⟩
end Go.Proofs.Ytegbnmaglkpkjaa
