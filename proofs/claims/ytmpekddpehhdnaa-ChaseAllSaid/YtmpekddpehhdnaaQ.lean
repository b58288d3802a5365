/-
  '==' and '!=' of two structs whose fields are bools, integers and strings.
-/
import Derived.Test.YtmpekddpehhdnaaRg
import Derived.Laws.StructEq
import Derived.ChangeKeysEq
namespace Go.Proofs.Ytmpekddpehhdnaa
open Go

def eqB : Value → Value → Bool
  | .bool a, .bool b => a == b
  | .int _ a, .int _ b => a == b
  | .string a, .string b => a.toList == b.toList
  | _, _ => false
def fitK (P : Program) (e : TypeId) : Value → Value → Bool
  | .bool _, .bool _ => match P.underlying e with
    | some .bool => true
    | _ => false
  | .int k _, .int k' _ => match P.underlying e with
    | some (.int _) => decide (k = k')
    | _ => false
  | .string _, .string _ => match P.underlying e with
    | some .string => true
    | _ => false
  | _, _ => false
def fitB (P : Program) : Nat → List Field → List Value → List Value → Bool
  | _, [], [], [] => true
  | i, f :: fs, u :: us, v :: vs => (f.name != "_") && Nat.beq f.offset i && fitK P f.type u v && fitB P (i + 1) fs us vs
  | _, _, _, _ => false
/-- Are the cells the same? -/
def eqL : List Value → List Value → Bool
  | u :: us, v :: vs => eqB u v && eqL us vs
  | _, _ => true
def fitT (P : Program) (t : TypeId) (us vs : List Value) : Bool :=
  match P.underlying t with
  | some (.struct fs) => fitB P 0 fs.toList us vs && !P.stoodInHeld t && !P.eqGuardType P.depth t
  | _ => false
section
variable {P : Program}
theorem run_eqB (w : World) (d : Nat) {e : TypeId} {u v : Value} (hk : fitK P e u v = true) : P.plainKey e = true ∧ (Op.equalIn (d + 1) e u v).run P w = .ok (eqB u v) w := by
  unfold fitK at hk
  split at hk
  · split at hk
    · rename_i hu
      exact ⟨by simp [Program.plainKey, hu], run_equalIn_bool w d e _ _ hu⟩
    · cases hk
  · split at hk
    · rename_i hu
      have := of_decide_eq_true hk
      subst this
      exact ⟨by simp [Program.plainKey, hu], run_equalIn_int w d e _ _ _ _ hu⟩
    · cases hk
  · split at hk
    · rename_i hu
      exact ⟨by simp [Program.plainKey, hu], run_equalIn_string w d e _ _ hu⟩
    · cases hk
  · cases hk
theorem run_eqF (w : World) (d : Nat) (xs ys : Array Value) : ∀ (fs : List Field) (i : Nat) (us vs : List Value), xs.toList.drop i = us → ys.toList.drop i = vs → fitB P i fs us vs = true →
    (Op.eqFields (d + 1) xs ys fs).run P w = .ok (eqL us vs) w
  | [], i, us, vs, _, _, hf => by
    match us, vs, hf with
    | [], [], _ => simp [Op.eqFields, eqL]
    | [], _ :: _, hf => simp [fitB] at hf
    | _ :: _, _, hf => simp [fitB] at hf
  | f :: fs, i, us, vs, hx, hy, hf => by
    match us, vs, hf with
    | [], _, hf => simp [fitB] at hf
    | u :: us, [], hf => simp [fitB] at hf
    | u :: us, v :: vs, hf =>
      simp only [fitB, Bool.and_eq_true, bne_iff_ne] at hf
      obtain ⟨⟨⟨hn, ho⟩, hk⟩, hr⟩ := hf
      have ho : f.offset = i := Nat.eq_of_beq_eq_true ho
      obtain ⟨hp, he⟩ := run_eqB w d hk
      have gx : xs[i]? = some u := by
        have := congrArg (·[0]?) hx
        simpa using this
      have gy : ys[i]? = some v := by
        have := congrArg (·[0]?) hy
        simpa using this
      have nx : xs.toList.drop (i + 1) = us := by
        have := congrArg (·.drop 1) hx
        simpa using this
      have ny : ys.toList.drop (i + 1) = vs := by
        have := congrArg (·.drop 1) hy
        simpa using this
      have ih := run_eqF w d xs ys fs (i + 1) us vs nx ny hr
      simp only [Op.eqFields, hn, ne_eq, not_false_eq_true, if_true, Sem.run_bind, ho, run_part_plain w hp gx, run_part_plain w hp gy, he, Result.andThen_ok, eqL]
      cases eqB u v
      · simp
      · simpa using ih
theorem run_eqT (w : World) {t : TypeId} {us vs : List Value} (hf : fitT P t us vs = true) : P.eqGuardType P.depth t = false ∧ (Op.equalIn 10000 t (.agg us.toArray) (.agg vs.toArray)).run P w = .ok (eqL us vs) w := by
  unfold fitT at hf
  split at hf
  · rename_i fs hu
    simp only [Bool.and_eq_true, Bool.not_eq_true'] at hf
    obtain ⟨⟨h1, h2⟩, h3⟩ := hf
    refine ⟨h3, ?_⟩
    have hfs : P.fieldsOf t = fs := by simp [Program.fieldsOf, hu]
    have := run_equalIn_struct (P := P) w 9999 t us.toArray vs.toArray (by rw [hfs]; exact hu) h2
    rw [hfs] at this
    rw [show (10000 : Nat) = 9999 + 1 from rfl, this]
    exact run_eqF w 9998 us.toArray vs.toArray fs.toList 0 us vs rfl rfl h1
  · cases hf
theorem opNeq {h : Heap} {t : TypeId} {x y : Operand} {us vs : List Value} {K : Bool → Prop} (hf : fitT P t us vs = true) (hK : K (!eqL us vs)) :
    OpV P (do eqGuard .neq t x y (.agg us.toArray) (.agg vs.toArray); binOp .neq t (.agg us.toArray) (.agg vs.toArray)) h [.one .bool] K := by
  refine ⟨(!eqL us vs, ()), fun w hw => ⟨w, ?_, Env.refl w, hw⟩, hK⟩
  obtain ⟨h1, h2⟩ := run_eqT w hf
  rw [Sem.run_bind, run_eqGuard_agg w .neq t x y _ _ h1, Result.andThen_ok, run_neq_struct, h2, Result.andThen_ok]
  rfl
theorem opEql {h : Heap} {t : TypeId} {x y : Operand} {us vs : List Value} {K : Bool → Prop} (hf : fitT P t us vs = true) (hK : K (eqL us vs)) :
    OpV P (do eqGuard .eql t x y (.agg us.toArray) (.agg vs.toArray); binOp .eql t (.agg us.toArray) (.agg vs.toArray)) h [.one .bool] K := by
  refine ⟨(eqL us vs, ()), fun w hw => ⟨w, ?_, Env.refl w, hw⟩, hK⟩
  obtain ⟨h1, h2⟩ := run_eqT w hf
  rw [Sem.run_bind, run_eqGuard_agg w .eql t x y _ _ h1, Result.andThen_ok, run_eql_struct, h2, Result.andThen_ok]
  rfl
end
end Go.Proofs.Ytmpekddpehhdnaa
