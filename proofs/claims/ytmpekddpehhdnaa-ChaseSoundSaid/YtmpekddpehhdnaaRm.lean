/-
  Maps whose elements are numbers, as things of a row: what each key has.
-/
import Derived.Test.YtmpekddpehhdnaaRg
import Derived.Maps.OwnSet
import Derived.Carry
namespace Go.Proofs.Ytmpekddpehhdnaa
open Go
open Go.Maps

/-- The keys of a map's type. -/
structure KeyA (P : Program) (k : TypeId) (κ : Type) where
  val : κ → Value
  ok : κ → Prop
  key : ∀ x, ok x → ∃ l, keyOf P k (val x) = some l
  inj : ∀ x y, val x = val y → x = y
structure MapT (P : Program) (t k e : TypeId) : Prop where
  ht : P.underlying t = some (.map k e)
  K : Keyed P k
  he : P.underlying e = some (.int .i64)
  hz : ∀ w, (zeroValue e).run P w = .ok (.int .i64 0) w
section
variable {P : Program} {t k e : TypeId} {κ : Type}
/-- What the block's map has. -/
def MapIs (A : KeyA P k κ) (e : TypeId) (h : Heap) (b n : Nat) (f : κ → Option Int) : Prop :=
  ∃ D : DataW Unit, (mkW h).ownsMap P k (plainElem P e) b n D ∧ ∀ x l, keyOf P k (A.val x) = some l → (f x = none → has D l = false) ∧ ∀ c, f x = some c → has D l = true ∧ ∀ z, D.atKey l z = .lit (.int .i64 c)
theorem owns_w {w : World} {h : Heap} (hw : w.heap = h) {R : Value → Option (DataW Unit × List MemPlace)} {b n : Nat} {D : DataW Unit} (ho : (mkW h).ownsMap P k R b n D) : w.ownsMap P k R b n D := by
  obtain ⟨es, clock, hb, r⟩ := ho
  exact ⟨es, clock, by rw [hw]; exact hb, r⟩
theorem owns_h {w : World} {R : Value → Option (DataW Unit × List MemPlace)} {b n : Nat} {D : DataW Unit} (ho : w.ownsMap P k R b n D) : (mkW w.heap).ownsMap P k R b n D := ho
theorem MapIs.keep {A : KeyA P k κ} {h h' : Heap} {b n : Nat} {f : κ → Option Int} (hm : MapIs A e h b n f) (hk : h'[b]? = h[b]?) : MapIs A e h' b n f := by
  obtain ⟨D, ⟨es, clock, hb, r⟩, hv⟩ := hm
  exact ⟨D, ⟨es, clock, hk.trans hb, r⟩, hv⟩
theorem MapIs.lt {A : KeyA P k κ} {h : Heap} {b n : Nat} {f : κ → Option Int} (hm : MapIs A e h b n f) : b < h.size := by
  obtain ⟨D, ho, _⟩ := hm
  exact World.ownsMap.lt ho
def mapR (A : KeyA P k κ) (e : TypeId) (b n : Nat) (f : κ → Option Int) : Res :=
  .any (fun g => g = b) (fun h => MapIs A e h b n f) (fun h h' _ hk hm => hm.keep (hk b rfl hm.lt)) (fun h hm g hg => by rw [hg]; exact hm.lt)
def updF [DecidableEq κ] (f : κ → Option Int) (x : κ) (c : Int) : κ → Option Int := fun y => if y = x then some c else f y
section
variable {A : KeyA P k κ} (T : MapT P t k e) {h0 h : Heap} {L : List Res}
theorem mkMap {K : Option Nat → Heap → Prop} (H : At h0 h L) (hK : ∀ h' b, At h0 h' (mapR A e b 0 (fun _ => none) :: L) → K (some b) h') : OpT P (Instr.makeMap t none) h [.one .map] K := by
  intro w hw
  refine ⟨.map (some w.heap.size), w.alloc (.map #[] 0), rfl, ⟨rfl, rfl, rfl⟩, (some w.heap.size, ()), rfl, ?_⟩
  show K (some w.heap.size) (w.heap.push (.map #[] 0))
  rw [hw]
  refine hK _ h.size (H.new (r := mapR A e h.size 0 fun _ => none) (ext_push h _ (Nat.le_refl _)) ?_ fun g hg => by rw [show g = h.size from hg]; exact Nat.le_refl _)
  refine ⟨.map [], World.ownsMap_made (mkW h) P k _, fun x l hl => ⟨fun _ => rfl, (fun c hc => by cases hc)⟩⟩
include T
theorem lookM {b n : Nat} {f : κ → Option Int} {K : Int → Prop} (H : At h0 h L) (i : Nat) (hi : L[i]? = some (mapR A e b n f)) (x : κ) (hx : A.ok x) {key : Value} (hkey : key = A.val x) (hK : K ((f x).getD 0)) : OpV P (Instr.lookup t (.map (some b)) key false) h [.one (.int .i64)] K := by
  subst hkey
  obtain ⟨D, ho, hv⟩ : MapIs A e h b n f := H.get i hi
  obtain ⟨l, hl⟩ := A.key x hx
  obtain ⟨h1, h2⟩ := hv x l hl
  refine ⟨((f x).getD 0, ()), fun w hw => ?_, hK⟩
  obtain ⟨c, hrun, hat, _⟩ := World.ownsMap.lookup_int (owns_w hw ho) T.K T.ht T.he (T.hz w) hl
  refine ⟨w, ?_, Env.refl w, hw⟩
  rw [hrun]
  show Result.ok (Value.int .i64 c) w = .ok (.int .i64 ((f x).getD 0)) w
  cases hf : f x with
  | none =>
    rw [atKey_of_not_has (h1 hf)] at hat
    injection hat with hat
    injection hat with _ hat
    rw [← hat]; rfl
  | some c' =>
    rw [(h2 c' hf).2] at hat
    injection hat with hat
    injection hat with _ hat
    rw [← hat]; rfl
theorem lookM2 {b n : Nat} {f : κ → Option Int} {K : Int → Bool → Prop} (H : At h0 h L) (i : Nat) (hi : L[i]? = some (mapR A e b n f)) (x : κ) (hx : A.ok x) {key : Value} (hkey : key = A.val x) (hK : K ((f x).getD 0) (f x).isSome) : OpV P (Instr.lookup t (.map (some b)) key true) h [.one (.int .i64), .one .bool] K := by
  subst hkey
  obtain ⟨D, ho, hv⟩ : MapIs A e h b n f := H.get i hi
  obtain ⟨l, hl⟩ := A.key x hx
  obtain ⟨h1, h2⟩ := hv x l hl
  refine ⟨((f x).getD 0, (f x).isSome, ()), fun w hw => ?_, hK⟩
  obtain ⟨v, ps, hrun, hv⟩ := World.ownsMap.look_ok (owns_w hw ho) T.K T.ht (T.hz w) (plainElem_int T.he (by decide)) hl
  obtain ⟨c, rfl, hc, _⟩ := plainElem_int_inv T.he hv
  simp only [Prod.mk.injEq] at hc
  refine ⟨w, ?_, Env.refl w, hw⟩
  rw [hrun]
  show Result.ok (Value.tuple #[.int .i64 c, .bool (has D l)]) w = .ok (.tuple #[.int .i64 ((f x).getD 0), .bool (f x).isSome]) w
  cases hf : f x with
  | none =>
    have hat := hc.1
    rw [atKey_of_not_has (h1 hf)] at hat
    injection hat with hat
    injection hat with _ hat
    rw [← hat, h1 hf]; rfl
  | some c' =>
    have hat := hc.1
    rw [(h2 c' hf).2] at hat
    injection hat with hat
    injection hat with _ hat
    rw [← hat, (h2 c' hf).1]; rfl
theorem updM [DecidableEq κ] {b n : Nat} {f : κ → Option Int} {K : Heap → Prop} (H : At h0 h L) (i : Nat) (hi : L[i]? = some (mapR A e b n f)) (hn : n < 4611686018427387904) (x : κ) (hx : A.ok x) {key : Value} (hkey : key = A.val x) (c : Int) (hc : (Lit.int .i64 c).wf = true)
    (hK : ∀ h', At h0 h' (L.set i (mapR A e b (n + 1) (updF f x c))) → K h') : OpU P (Instr.mapUpdate t (.map (some b)) key (.int .i64 c)) h K := by
  subst hkey
  obtain ⟨D, ho, hv⟩ : MapIs A e h b n f := H.get i hi
  obtain ⟨l, hl⟩ := A.key x hx
  intro w hw
  obtain ⟨w', hrun, ho', hmt⟩ := World.ownsMap.store (owns_w hw ho) T.K T.ht (by simp only [maxLen]; omega) hl (plainElem_int T.he hc)
  obtain ⟨es, clock, es', clock', hb, rfl⟩ := hmt
  refine ⟨_, _, hrun, ⟨rfl, rfl, rfl⟩, ?_⟩
  have hkl := T.K.key hl
  have hmap : IsMap D := World.ownsMap.isMap ho
  refine hK _ (H.turn i hi (r' := mapR A e b (n + 1) (updF f x c)) ⟨?_, fun g hg hne => ?_⟩ ⟨_, owns_h ho', fun y ly hly => ?_⟩ fun g hg => .inl hg)
  · show h.size ≤ (w.heap.setIfInBounds b _).size
    rw [Array.size_setIfInBounds, hw]; exact Nat.le_refl _
  · show (w.heap.setIfInBounds b _)[g]? = h[g]?
    rw [Array.getElem?_setIfInBounds_ne fun e => hne e.symm, hw]
  · unfold updF
    by_cases hyx : y = x
    · subst hyx
      rw [hl] at hly
      injection hly with hly
      subst hly
      rw [if_pos rfl]
      refine ⟨(fun h => by cases h), fun c' hc' => ?_⟩
      injection hc' with hc'
      subst hc'
      exact ⟨has_put_same hmap hkl _, fun z => atKey_put_same hmap hkl _ z⟩
    · rw [if_neg hyx]
      have hne : ly ≠ l := fun e => hyx (A.inj _ _ (T.K.inj (e ▸ hly) hl))
      obtain ⟨h1, h2⟩ := hv y ly hly
      refine ⟨fun h => by rw [has_put_other hne]; exact h1 h, fun c' hc' => ?_⟩
      obtain ⟨h3, h4⟩ := h2 c' hc'
      exact ⟨by rw [has_put_other hne]; exact h3, fun z => by rw [atKey_put_other hne]; exact h4 z⟩
end
end
theorem wf64 {c : Int} (h1 : -9223372036854775808 ≤ c) (h2 : c ≤ 9223372036854775807) : (Lit.int .i64 c).wf = true := by
  simp [Lit.wf, IntKind.min, IntKind.max, IntKind.bits, IntKind.signed]; omega
end Go.Proofs.Ytmpekddpehhdnaa
