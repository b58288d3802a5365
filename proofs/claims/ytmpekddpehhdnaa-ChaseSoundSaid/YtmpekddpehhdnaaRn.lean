/-
  Small things used by many layers' texts. (XTb, XTl, XUb, XUd and XUf have some of them by the same names: not to be imported together.)
-/
import Derived.Test.YtmpekddpehhdnaaRh
import Derived.Test.YtmpekddpehhdnaaRm
import Derived.Test.YtmpekddpehhdnaaRc
import Derived.DeepKeys4
import Derived.Test.YtmpekddpehhdnaaProg
namespace Go.Proofs.Ytmpekddpehhdnaa
open Go
open Go.Maps

theorem brNot {b : Bool} {A B : Prop} (h1 : b = false → A) (h2 : b = true → B) : cond (!b) A B := by
  cases b
  · exact h1 rfl
  · exact h2 rfl
/-- Two rows of things, the second one made behind the first one's heap. -/
theorem At.join {h0 h h' : Heap} {L M : List Res} (H : At h0 h L) (H2 : At h h' M) : At h0 h' (M ++ L) := by
  have H' := H.ext' H2.ext
  refine ⟨H'.ext, fun r hr => ?_, fun r hr g hg => ?_, List.pairwise_append.2 ⟨H2.sep, H.sep, fun a ha b hb g hg x => ?_⟩⟩
  · rcases List.mem_append.1 hr with hr | hr
    · exact H2.ok r hr
    · exact H'.ok r hr
  · rcases List.mem_append.1 hr with hr | hr
    · exact Nat.le_trans H.le (H2.lo r hr g hg)
    · exact H.lo r hr g hg
  · have h1 := H2.lo a ha g hg
    have h2 := Res.lt b (H.ok b hb) g x
    omega
theorem allocRaw {h : Heap} {t : TypeId} {cs : List Value} {K : Addr → Heap → Prop} (hk : ∀ h' : Heap, h'[h.size]? = some (.cells cs.toArray t (0, 0)) → Ext h.size h h' → K ⟨h.size, 0, none⟩ h') : Alloc h (.cells cs.toArray t) K :=
  hk _ (by simp) (ext_push _ _ (Nat.le_refl _))
theorem At.keep {h0 h : Heap} {L : List Res} (H : At h0 h L) (n : Nat) : At h0 h (L.take n) :=
  ⟨H.ext, fun r hr => H.ok r (List.mem_of_mem_take hr), fun r hr => H.lo r (List.mem_of_mem_take hr), H.sep.sublist (List.take_sublist ..)⟩
theorem mid_eq {a b : Nat} (h : a + b < 4611686018427387904) : IntKind.i64.wrap (shiftV .shr .u64 (IntKind.u64.wrap (IntKind.i64.wrap ((a : Int) + (b : Int)))) 1) = (((a + b) / 2 : Nat) : Int) := by
  have e := shr_eq .u64 ((a : Int) + (b : Int)) 1 (by show 1 ≤ 64; decide)
  rw [w64 (n := (a : Int) + (b : Int)) (by omega) (by omega), wu64 (by omega) (by omega), show shiftV .shr .u64 ((a : Int) + (b : Int)) 1 = ((a : Int) + (b : Int)) / 2 ^ 1 from e, w64 (by omega) (by omega)]
  omega
def eNum : Enc Int 1 := ⟨fun a => [.int .i64 a], fun _ => rfl, by decide, fun x u hu => by
  simp only [List.mem_cons, List.not_mem_nil, or_false] at hu
  rcases hu with rfl; rfl⟩
theorem TNum : ElemT Try.prog 53 3 1 8 := .of (by kernel_rfl)
theorem ZNum : ZeroT Try.prog 3 [.int .i64 0] := ⟨by kernel_rfl⟩
theorem Enc.fl_rep {α : Type} {sz : Nat} (E : Enc α sz) (n : Nat) (x : α) : E.fl (List.replicate n x) = (List.replicate n (E.cells x)).flatten := by
  simp [Enc.fl, List.flatMap_def]
theorem laidOutT : laidOutB Try.prog = true := by kernel_rfl
def in64 (x : Int) : Prop := -9223372036854775808 ≤ x ∧ x ≤ 9223372036854775807
theorem wf_in64 {n : Int} (h : (Lit.int .i64 n).wf = true) : in64 n := by
  unfold in64
  simp [Lit.wf, IntKind.min, IntKind.max, IntKind.bits, IntKind.signed] at h; omega
theorem zv_run {P : Program} {e : TypeId} {z : Value} (h : (P.info? e).bind (·.zero) = some z) (w : World) : (zeroValue e).run P w = .ok z w := by
  cases hi : P.info? e with
  | none => rw [hi] at h; cases h
  | some i =>
    rw [hi] at h
    have hz : i.zero = some z := h
    simp [zeroValue, typeInfo, program, Sem.run, hi, hz]
/-- The i-th thing to the front, and back again, turned. -/
theorem At.pick {h0 h : Heap} {L : List Res} {r : Res} (H : At h0 h L) (i : Nat) (hi : L[i]? = some r) : At h0 h (r :: L.eraseIdx i) := H.perm (set_perm (r' := r) L i hi).2
theorem At.back {h0 h : Heap} {L : List Res} {r r' : Res} (i : Nat) (hi : L[i]? = some r) (H : At h0 h (r' :: L.eraseIdx i)) : At h0 h (L.set i r') := H.perm (set_perm (r' := r') L i hi).1.symm
theorem permIn {α : Type} (F A B : List α) : (F ++ (A ++ B)).Perm (A ++ (B ++ F)) := (List.perm_append_comm).trans (by rw [List.append_assoc])
theorem permLast {α : Type} (r : α) (F A B : List α) : (r :: (A ++ (B ++ F))).Perm (A ++ ((B ++ [r]) ++ F)) := by
  have h1 : (r :: (A ++ (B ++ F))).Perm (A ++ (r :: (B ++ F))) := List.perm_middle.symm
  refine h1.trans (List.Perm.append_left _ ?_)
  rw [List.append_assoc]
  exact List.perm_middle.symm
theorem row_left {α β : Type} {f : α → β} {l : List α} {Y : List β} {k : Nat} (hk : k < l.length) : (l.map f ++ Y)[k]? = some (f l[k]) := by
  rw [List.getElem?_append_left (by rw [List.length_map]; exact hk), List.getElem?_map, List.getElem?_eq_getElem hk]; rfl
theorem row_right {α β : Type} {X : List β} {f : α → β} {l : List α} {Y : List β} {k : Nat} (hk : k < l.length) : (X ++ (l.map f ++ Y))[X.length + k]? = some (f l[k]) := by
  rw [List.getElem?_append_right (by omega), Nat.add_sub_cancel_left]
  exact row_left hk
theorem row_leftS {α β : Type} {f : α → β} {l : List α} {Y : List β} {k : Nat} (hk : k < l.length) (y : α) : (l.map f ++ Y).set k (f y) = (l.set k y).map f ++ Y := by
  rw [List.set_append_left _ _ (by rw [List.length_map]; exact hk), List.map_set]
theorem row_rightS {α β : Type} {X : List β} {f : α → β} {l : List α} {Y : List β} {k : Nat} (hk : k < l.length) (y : α) : (X ++ (l.map f ++ Y)).set (X.length + k) (f y) = X ++ ((l.set k y).map f ++ Y) := by
  rw [List.set_append_right _ _ (by omega), Nat.add_sub_cancel_left, row_leftS hk]
end Go.Proofs.Ytmpekddpehhdnaa
