/- Printed by a program: what each function asks of the heap, that this is the reading of its code, and what follows for a call. -/
import Derived.Test.YtnognoiaakiepaaSC
import Derived.Test.YtnognoiaakiepaaProg
set_option maxRecDepth 1000000
namespace Go.Proofs.Ytnognoiaakiepaa
open Go

/-- bytes.Clone -/
def S_bytes_Clone (b : Sl) (h : Heap) (R : Sl → Heap → Prop) : Prop :=
  (bif b.a.isNone then
    R ⟨none, 0, 0⟩ h
  else
    Alloc h (.cells #[] 5) fun b1 h_ =>
    App Try.prog 22 22 ⟨some b1, 0, 0⟩ b h_ fun s h_1 =>
    R s h_1
  )
theorem E_bytes_Clone (b : Sl) (h : Heap) (R : Sl → Heap → Prop) :
    VF Try.prog [] Try.f75 [.slice b.a b.n b.c] h [.one .sl] R = S_bytes_Clone b h R := by kernel_rfl
theorem A_bytes_Clone {b : Sl} {h : Heap} {R : Sl → Heap → Prop} (hs : S_bytes_Clone b h R) : C_bytes_Clone b h R :=
  use_ Try.func75 (by kernel_rfl) (E_bytes_Clone b h R) hs

end Go.Proofs.Ytnognoiaakiepaa
