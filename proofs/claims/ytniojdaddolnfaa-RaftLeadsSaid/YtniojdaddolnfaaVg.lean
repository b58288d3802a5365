/-
  A function whose results lie in cells of the heap (a struct's variable that is handed back): they are read where it comes to its end.
-/
import Derived.Test.YtniojdaddolnfaaVf
namespace Go.Proofs.Ytniojdaddolnfaa
open Go

/-- A variable that is read, of a type whose cells are known. -/
def LdR (P : Program) (t : TypeId) (h : Heap) (a : Addr) (K : Value → Prop) : Prop :=
  match shOf P t with
  | .one k => Ld k h a fun x => K (k.mk x)
  | .agg ks => LdL h a 0 ks fun vs => K (.agg ⟨vs⟩)
  | .raw => False
/-- The values that the results' variables have. -/
def getV (P : Program) (h : Heap) (σ : Nat → Value) : List ResultVar → (List Value → Prop) → Prop
  | [], K => K []
  | .tmp t :: rs, K => getV P h σ rs fun vs => K (σ t :: vs)
  | .cell a t :: rs, K => match σ a with
    | .pointer (some ad) => LdR P t h ad fun v => getV P h σ rs fun vs => K (v :: vs)
    | _ => False
theorem LdR_run {P : Program} {t : TypeId} {h : Heap} {a : Addr} {K : Value → Prop} (hl : LdR P t h a K) :
    ∃ v, K v ∧ ∀ w : World, w.heap = h → (loadVar t a).run P w = .ok v w := by
  unfold LdR at hl
  have hsz : ∀ i, P.info? t = some i → ∀ w, (sizeOf t).run P w = .ok i.size w := fun i hi w => by
    unfold sizeOf; rw [Sem.run_bind, show (typeInfo t).run P w = .ok i w by simp [typeInfo, hi, program, Sem.run_bind, Sem.run]]; rfl
  split at hl
  · rename_i k hk
    obtain ⟨x, hx, hK⟩ := hl
    refine ⟨_, hK, fun w hw => ?_⟩
    unfold shOf at hk
    split at hk
    · cases hk
    · rename_i d hd
      split at hk
      · cases hk
      · rename_i i hi
        split at hk
        · split at hk
          · split at hk <;> cases hk
          · cases hk
        · rename_i hag
          have hc : w.cell? a = some (k.mk x) := by rw [cell_eq, hw]; exact hx
          simp only [Sem.run_bind, Result.andThen_ok, loadVar, run_isAgg hd]
          rw [if_neg (by simpa using hag)]
          show (Sem.load .plain a _).run P w = _
          simp only [Sem.run, hc]
  · rename_i ks hk
    obtain ⟨vs, hv, hrun⟩ := LdL_run (P := P) ks 0 _ hl
    refine ⟨_, hv, fun w hw => ?_⟩
    unfold shOf at hk
    split at hk
    · cases hk
    · rename_i d hd
      split at hk
      · cases hk
      · rename_i i hi
        split at hk
        · rename_i hag
          split at hk
          · rename_i cs hz
            split at hk
            · rename_i hsize
              injection hk with hk
              have hlen : ks.length = i.size := by rw [← hk]; simp [hsize.1]
              simp only [Sem.run_bind, Result.andThen_ok, loadVar, run_isAgg hd]
              rw [if_pos (by simpa using hag)]
              simp only [Sem.run_bind, hsz i hi, Result.andThen_ok, loadCells, ← hlen, hrun w #[] hw]
              simp
            · cases hk
          · cases hk
        · split at hk <;> cases hk
  · exact hl.elim
theorem getV_run {P : Program} {h : Heap} {σ : Nat → Value} {tmps : Array Value} (hσ : ∀ t, tmps.getD t undef = σ t) {w : World} (hw : w.heap = h) : ∀ (rs : List ResultVar) (K : List Value → Prop), getV P h σ rs K →
    ∃ vs, K vs ∧ (rs.mapM (resF tmps)).run P w = .ok vs w
  | [], K, hk => ⟨[], hk, by simp⟩
  | .tmp t :: rs, K, hk => by
    obtain ⟨vs, hv, hr⟩ := getV_run hσ hw rs _ hk
    refine ⟨_, hv, ?_⟩
    simp only [List.mapM_cons, Sem.run_bind, hr, resF, Sem.run_pure, Result.andThen_ok, hσ]
  | .cell a t :: rs, K, hk => by
    simp only [getV] at hk
    split at hk
    · rename_i ad ea
      obtain ⟨v, hv, hr⟩ := LdR_run hk
      obtain ⟨vs, hvs, hrs⟩ := getV_run hσ hw rs _ hv
      refine ⟨_, hvs, ?_⟩
      have e1 : (resF tmps (.cell a t)).run P w = .ok v w := by
        simp only [resF, hσ, ea, asAddr, Sem.run_bind, Sem.run_pure, Result.andThen_ok]
        exact hr w hw
      simp only [List.mapM_cons, Sem.run_bind, hrs, e1, Sem.run_pure, Result.andThen_ok]
    · exact hk.elim
/-- The whole of a function: its code, from its arguments on; its results read where it comes to its end. -/
def VG (P : Program) (an : List (Nat × Slots)) (fn : Func) (args : List Value) (h : Heap) (ss : List Sh) (R : TH (Heap → Prop) ss) : Prop :=
  match fn.body with
  | none => False
  | some c =>
      let K : Kont := fun σ h' => getV P h' σ fn.results.toList fun vs => getR ss vs fun x => TH.un ss R x h'
      V P an c 1 [] K K (argS args) h
theorem results_valsG {fn : Func} {tmps : Array Value} {P : Program} (w : World) {vs : List Value} (hrs : (fn.results.toList.mapM (resF tmps)).run P w = .ok vs w) {ss : List Sh} {x : HL ss}
    (hx : vs = HL.vals ss x) : (results fn tmps).run P w = .ok (retV ss x) w := by
  have h1 : (fn.results.mapM (resF tmps)).run P w = .ok vs.toArray w := by
    have e : fn.results = fn.results.toList.toArray := rfl
    rw [e, List.mapM_toArray, Sem.run_map, hrs]
    rfl
  rw [results_eq, Sem.run_bind, h1, hx]
  match ss, x with
  | [], _ => rfl
  | [s], x => rfl
  | s :: t :: ss, x =>
    simp only [Result.andThen_ok]
    rw [dif_neg (by simp [HL.vals])]
    rfl
theorem VG_sound {P : Program} {an : List (Nat × Slots)} {f : FuncId} {fn : Func} {args : List Value} {h : Heap} {ss : List Sh} {R : TH (Heap → Prop) ss} (hm : P.follows .mixedOrders = true) (hf : P.funcs[f]? = some fn)
    (hok : codeOk fn args.length = true) (hv : VG P an fn args h ss R) : CallR P f args h ss R := by
  intro w hw
  unfold VG at hv
  split at hv
  · exact hv.elim
  · rename_i c hc
    simp only [codeOk, hc, Bool.and_eq_true, List.all_eq_true, decide_eq_true_eq] at hok
    refine calls_of_wp hf hc (wp_mono (V_sound (n := fn.ntmps) (w₀ := w) hm c 1 [] _ _ (argS args) h _ w hv ⟨?_, rfl, fun t => argS_at args _ t⟩ hw (Env.refl w) hok.1) fun e a' w' hp => ?_)
    · have := hok.2
      simp; omega
    have fin : ∀ σ', Fr fn.ntmps a' σ' → (getV P w'.heap σ' fn.results.toList fun vs => getR ss vs fun x => TH.un ss R x w'.heap) → Env w w' → a'.defers = [] ∧ ∃ v, (results fn a'.tmps).run P w' = .ok v w' ∧ (Env w w' ∧ ∃ x, Ending.returned v = .returned (retV ss x) ∧ TH.un ss R x w'.heap) := fun σ' hfr hr hE => by
      obtain ⟨vs, hv1, hrun⟩ := getV_run (P := P) hfr.at_ (w := w') rfl _ _ hr
      obtain ⟨x, e1, h1⟩ := getR_spec ss _ _ hv1
      exact ⟨hfr.defers, _, results_valsG w' hrun e1, hE, x, rfl, h1⟩
    cases e with
    | normal => obtain ⟨hE, σ', hfr, hk, _⟩ := hp; exact fin σ' hfr hk hE
    | ret => obtain ⟨hE, σ', hfr, hk⟩ := hp; exact fin σ' hfr hk hE
    | exit id => obtain ⟨_, σ', _, hk, _⟩ := hp; exact hk.elim
    | _ => exact hp.elim
end Go.Proofs.Ytniojdaddolnfaa
