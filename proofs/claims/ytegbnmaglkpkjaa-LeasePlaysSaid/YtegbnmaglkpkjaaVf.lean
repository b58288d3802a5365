/-
  A function's whole body as a predicate: loops ask an invariant and a measure, ways that meet again ask what holds there.
-/
import Derived.Test.YtegbnmaglkpkjaaVe
namespace Go.Proofs.Ytegbnmaglkpkjaa
open Go

def memN : List Nat → Nat → Bool
  | [], _ => false
  | d :: l, t => cond (Nat.beq t d) true (memN l t)
theorem memN_iff (l : List Nat) (t : Nat) : memN l t = true ↔ t ∈ l := by
  induction l with
  | nil => simp [memN]
  | cons d l ih =>
    unfold memN
    cases e : Nat.beq t d with
    | true => have : t = d := Nat.eq_of_beq_eq_true e
              simp [this]
    | false =>
      have : t ≠ d := fun x => by rw [x] at e; simp at e
      simp [ih, this]
/-- What a loop's body may have turned, forgotten. -/
def mix (m : List Nat) (τ σ : Nat → Value) : Nat → Value := fun t => cond (memN m t) (τ t) (σ t)
theorem mix_agr {m : List Nat} {σ σ' : Nat → Value} (h : Agr (· ∈ m) σ σ') : mix m σ' σ = σ' := by
  funext t
  unfold mix
  cases e : memN m t with
  | true => rfl
  | false => exact (h t fun hm => by rw [(memN_iff m t).2 hm] at e; cases e).symm
abbrev Slots := List (Nat × Sh)
def Slots.sh (sl : Slots) : List Sh := sl.map (·.2)
def getS : (sl : Slots) → (Nat → Value) → (HL sl.sh → Prop) → Prop
  | [], _, K => K ()
  | (d, s) :: sl, σ, K => s.get (σ d) fun x => getS sl σ fun y => K (x, y)
def setS : (sl : Slots) → (Nat → Value) → HL sl.sh → Nat → Value
  | [], σ, _ => σ
  | (d, s) :: sl, σ, x => up (setS sl σ x.2) d (s.mk x.1)
theorem getS_spec : ∀ (sl : Slots) (σ : Nat → Value) (K : HL sl.sh → Prop), getS sl σ K → ∃ x, K x ∧ setS sl σ x = σ
  | [], _, _, h => ⟨(), h, rfl⟩
  | (d, s) :: sl, σ, K, h => by
    obtain ⟨x, e1, h1⟩ := s.get_spec _ _ h
    obtain ⟨y, h2, e2⟩ := getS_spec sl σ _ h1
    refine ⟨(x, y), h2, ?_⟩
    show up (setS sl σ y) d (s.mk x) = σ
    rw [e2, ← e1, up_self]

/-- A loop: whoever proves it gives what holds at each round's head, and a number that falls. -/
def Loop (ss : List Sh) (body : (Nat → Value) → TH (Heap → TH (Heap → Prop) ss → Prop) ss) (x₀ : HL ss) (h₀ : Heap) : Prop :=
  ∃ (I : TH (Heap → Prop) ss) (μ : TH (Heap → Nat) ss), TH.un ss I x₀ h₀ ∧
    ∀ τ x h, TH.un ss I x h → TH.un ss (body τ) x h (TH.cu ss fun x' h' => TH.un ss I x' h' ∧ TH.un ss μ x' h' < TH.un ss μ x h)
/-- Ways that meet again: whoever proves it gives what holds where they meet. -/
def Join (ss : List Sh) (rest : (Nat → Value) → TH (Heap → Prop) ss) (body : TH (Heap → Prop) ss → Prop) : Prop :=
  ∃ J : TH (Heap → Prop) ss, (∀ τ x h, TH.un ss J x h → TH.un ss (rest τ) x h) ∧ body J

def annOf : List (Nat × Slots) → Nat → Option Slots
  | [], _ => none
  | (q, sl) :: l, p => cond (Nat.beq p q) (some sl) (annOf l p)
def lookE : List (Nat × Kont) → Nat → Kont
  | [], _ => fun _ _ => False
  | (i, K) :: E, id => cond (Nat.beq id i) K (lookE E id)
def mods : Code → List Nat
  | .region _ ops _ => ops.toList.filterMap (·.dst)
  | .seq a b => mods a ++ mods b
  | .cond _ a b => mods a ++ mods b
  | .block _ c => mods c
  | .loop c => mods c
  | _ => []
def joinW (an : Option Slots) (m : List Nat) (K : Kont) (σ : Nat → Value) (body : Kont → Prop) : Prop :=
  match an with
  | none => body K
  | some sl => Join sl.sh (fun τ => TH.cu sl.sh fun x => fun h => K (setS sl (mix m τ σ) x) h) fun J => body fun σ' h' => getS sl σ' fun x => TH.un sl.sh J x h'

section
variable (P : Program) (an : List (Nat × Slots))
def V : Code → Nat → List (Nat × Kont) → Kont → Kont → Kont
  | .skip, _, _, _, K => K
  | .label _, _, _, _, K => K
  | .region _ ops draw, p, _, _, K => fun σ h => joinW (annOf an p) (ops.toList.filterMap (·.dst)) K σ fun K' =>
    cond draw (cond (chk ops) (T P ops (ops.size + 1) 0 K' σ h) False) (X P ops ops.toList K' σ h)
  | .seq a b, p, E, R, K => V a (2 * p) E R (V b (2 * p + 1) E R K)
  | .cond c a b, p, E, R, K => fun σ h => joinW (annOf an p) (mods a ++ mods b) K σ fun K' => match evS σ c with
    | .bool t => cond t (V a (2 * p) E R K' σ h) (V b (2 * p + 1) E R K' σ h)
    | _ => False
  | .block id c, p, E, R, K => fun σ h => joinW (annOf an p) (mods c) K σ fun K' => V c (2 * p) ((id, K') :: E) R K' σ h
  | .loop c, p, E, R, _ => fun σ h => match annOf an p with
    | none => False
    | some sl => getS sl σ fun x₀ => Loop sl.sh (fun τ => TH.cu sl.sh fun x => fun h rec => V c (2 * p) E R (fun σ' h' => getS sl σ' fun x' => TH.un sl.sh rec x' h') (setS sl (mix (mods c) τ σ) x) h) x₀ h
  | .exit id, _, E, _, _ => lookE E id
  | .ret, _, _, R, _ => R
  | _, _, _, _, _ => fun _ _ => False

def Post (n : Nat) (w₀ : World) (E : List (Nat × Kont)) (R K : Kont) (m : List Nat) (σ : Nat → Value) : Exit → Act → World → Prop
  | .normal, a, w => Env w₀ w ∧ ∃ σ', Fr n a σ' ∧ K σ' w.heap ∧ Agr (· ∈ m) σ σ'
  | .exit id, a, w => Env w₀ w ∧ ∃ σ', Fr n a σ' ∧ lookE E id σ' w.heap ∧ Agr (· ∈ m) σ σ'
  | .ret, a, w => Env w₀ w ∧ ∃ σ', Fr n a σ' ∧ R σ' w.heap
  | _, _, _ => False
theorem Agr.trans {m m' : Nat → Prop} {a b c : Nat → Value} (h : Agr m a b) (k : Agr m' b c) : Agr (fun t => m t ∨ m' t) a c :=
  fun t ht => (k t fun x => ht (.inr x)).trans (h t fun x => ht (.inl x))
theorem Agr.mono {m m' : Nat → Prop} {a b : Nat → Value} (h : Agr m a b) (hm : ∀ t, m t → m' t) : Agr m' a b := fun t ht => h t fun x => ht (hm t x)

variable {P an}
theorem join_sound {n : Nat} {w₀ : World} {E : List (Nat × Kont)} {R K : Kont} {m : List Nat} {σ : Nat → Value} {ann : Option Slots} {body : Kont → Prop} {G : (Kont → Prop) → Prop}
    (hj : joinW ann m K σ body) (hb : ∀ K', body K' → (∀ e a w, Post n w₀ E R K' m σ e a w → Post n w₀ E R K m σ e a w) → G body) : G body := by
  unfold joinW at hj
  split at hj
  · exact hb K hj fun _ _ _ h => h
  · rename_i sl
    obtain ⟨J, hJ, hbody⟩ := hj
    refine hb _ hbody fun e a w hp => ?_
    cases e with
    | normal =>
      obtain ⟨hE, σ', hf, hk, hag⟩ := hp
      obtain ⟨x, hx, hs⟩ := getS_spec sl σ' _ hk
      have := hJ σ' x _ hx
      rw [TH.un_cu, mix_agr hag, hs] at this
      exact ⟨hE, σ', hf, this, hag⟩
    | exit id => exact hp
    | ret => exact hp
    | _ => exact hp

theorem V_sound {n : Nat} {w₀ : World} (hm : P.follows .mixedOrders = true) : ∀ (c : Code) (p : Nat) (E : List (Nat × Kont)) (R K : Kont) (σ : Nat → Value) (h : Heap) (a : Act) (w : World),
    V P an c p E R K σ h → Fr n a σ → w.heap = h → Env w₀ w → (∀ d ∈ mods c, d < n) → c.wp P (Post n w₀ E R K (mods c) σ) a w := by
  intro c
  induction c with
  | skip => intro p E R K σ h a w hv hf hw hE _; exact wp_skip ⟨hE, σ, hf, by rw [hw]; exact hv, fun _ _ => rfl⟩
  | label l => intro p E R K σ h a w hv hf hw hE _; exact wp_label ⟨hE, σ, hf, by rw [hw]; exact hv, fun _ _ => rfl⟩
  | ret => intro p E R K σ h a w hv hf hw hE _; exact wp_ret ⟨hE, σ, hf, by rw [hw]; exact hv⟩
  | exit id => intro p E R K σ h a w hv hf hw hE _; exact wp_exit ⟨hE, σ, hf, by rw [hw]; exact hv, fun _ _ => rfl⟩
  | goto l => intro p E R K σ h a w hv; exact hv.elim
  | refuse s => intro p E R K σ h a w hv; exact hv.elim
  | scope c => intro p E R K σ h a w hv; exact hv.elim
  | rangeFunc f ps x y => intro p E R K σ h a w hv; exact hv.elim
  | region id ops draw =>
    intro p E R K σ h a w hv hf hw hE hd
    have hdn : ∀ i d, dstOf ops i = some d → d ∈ mods (.region id ops draw) := fun i d hi => by
      obtain ⟨o, ho, hod⟩ := Option.bind_eq_some_iff.1 hi
      have : o ∈ ops.toList := by rw [Array.mem_toList_iff]; exact Array.mem_of_getElem? ho
      exact List.mem_filterMap.2 ⟨o, this, hod⟩
    simp only [V] at hv
    refine join_sound (n := n) (w₀ := w₀) (E := E) (R := R) (G := fun _ => Code.wp P (.region id ops draw) (Post n w₀ E R K (mods (.region id ops draw)) σ) a w) hv fun K' hb hk => ?_
    refine wp_mono (Q := Post n w₀ E R K' (mods (.region id ops draw)) σ) ?_ hk
    cases draw with
    | true =>
      simp only [cond_true] at hb
      cases hc : chk ops with
      | false => rw [hc] at hb; exact hb.elim
      | true =>
        rw [hc] at hb
        refine T_sound hm hc (fun i d hi => hd d (hdn i d hi)) hb hf hw hE fun σ' a' w' hf' hE' hK hag => ?_
        exact ⟨hE', σ', hf', hK, hag.mono fun t ⟨i, hi⟩ => hdn i t hi⟩
    | false =>
      simp only [cond_false] at hb
      refine wp_region_list (X_sound ops.toList σ h a w hb hf hw hE (fun o ho d hod => hd d (List.mem_filterMap.2 ⟨o, ho, hod⟩)) fun σ' a' w' hf' hE' hK hag => ?_)
      exact ⟨hE', σ', hf', hK, hag.mono fun t ⟨o, ho, hod⟩ => List.mem_filterMap.2 ⟨o, ho, hod⟩⟩
  | seq x y ihx ihy =>
    intro p E R K σ h a w hv hf hw hE hd
    refine wp_seq (wp_mono (ihx (2 * p) E R (V P an y (2 * p + 1) E R K) σ h a w hv hf hw hE fun d hx => hd d (List.mem_append_left _ hx)) fun e a' w' hp => ?_)
    cases e with
    | normal =>
      obtain ⟨hE', σ', hf', hk, hag⟩ := hp
      refine wp_mono (ihy (2 * p + 1) E R K σ' _ a' w' hk hf' rfl hE' fun d hx => hd d (List.mem_append_right _ hx)) fun e2 a2 w2 hp2 => ?_
      cases e2 with
      | normal =>
        obtain ⟨hE2, σ2, hf2, hk2, hag2⟩ := hp2
        exact ⟨hE2, σ2, hf2, hk2, (hag.trans hag2).mono fun t ht => List.mem_append.2 ht⟩
      | exit id =>
        obtain ⟨hE2, σ2, hf2, hk2, hag2⟩ := hp2
        exact ⟨hE2, σ2, hf2, hk2, (hag.trans hag2).mono fun t ht => List.mem_append.2 ht⟩
      | ret => exact hp2
      | _ => exact hp2.elim
    | exit id =>
      obtain ⟨hE', σ', hf', hk, hag⟩ := hp
      exact ⟨hE', σ', hf', hk, hag.mono fun t ht => List.mem_append_left _ ht⟩
    | ret => exact hp
    | _ => exact hp.elim
  | cond c x y ihx ihy =>
    intro p E R K σ h a w hv hf hw hE hd
    simp only [V] at hv
    refine join_sound (n := n) (w₀ := w₀) (E := E) (R := R) (G := fun _ => Code.wp P (.cond c x y) (Post n w₀ E R K (mods x ++ mods y) σ) a w) hv fun K' hb hk => ?_
    refine wp_mono (Q := Post n w₀ E R K' (mods x ++ mods y) σ) ?_ hk
    split at hb
    · rename_i t ht
      refine wp_cond (t := t) (by rw [hf.eval]; exact ht) ?_
      have mono : ∀ (m : List Nat), (∀ d ∈ m, d ∈ mods x ++ mods y) → ∀ e a w, Post n w₀ E R K' m σ e a w → Post n w₀ E R K' (mods x ++ mods y) σ e a w := fun m hmm e a w hp => by
        cases e with
        | normal => obtain ⟨h1, h2, h3, h4, h5⟩ := hp; exact ⟨h1, h2, h3, h4, h5.mono hmm⟩
        | exit id => obtain ⟨h1, h2, h3, h4, h5⟩ := hp; exact ⟨h1, h2, h3, h4, h5.mono hmm⟩
        | ret => exact hp
        | _ => exact hp.elim
      cases t with
      | true => exact wp_mono (ihx _ E R K' σ h a w hb hf hw hE fun d hx => hd d (List.mem_append_left _ hx)) (mono _ fun d hx => List.mem_append_left _ hx)
      | false => exact wp_mono (ihy _ E R K' σ h a w hb hf hw hE fun d hx => hd d (List.mem_append_right _ hx)) (mono _ fun d hx => List.mem_append_right _ hx)
    · exact hb.elim
  | block id c ih =>
    intro p E R K σ h a w hv hf hw hE hd
    simp only [V] at hv
    refine join_sound (n := n) (w₀ := w₀) (E := E) (R := R) (G := fun _ => Code.wp P (.block id c) (Post n w₀ E R K (mods c) σ) a w) hv fun K' hb hk => ?_
    refine wp_mono (Q := Post n w₀ E R K' (mods c) σ) ?_ hk
    refine wp_block (wp_mono (ih _ ((id, K') :: E) R K' σ h a w hb hf hw hE hd) fun e a' w' hp => ?_)
    cases e with
    | normal => exact hp
    | exit id' =>
      obtain ⟨hE', σ', hf', hk', hag⟩ := hp
      simp only [Exit.inBlock]
      by_cases e : id' = id
      · subst e
        rw [if_pos rfl]
        have e1 : Nat.beq id' id' = true := by simp
        simp only [lookE, e1, cond_true] at hk'
        exact ⟨hE', σ', hf', hk', hag⟩
      · rw [if_neg e]
        simp only [lookE, beq_ff e, cond_false] at hk'
        exact ⟨hE', σ', hf', hk', hag⟩
    | ret => exact hp
    | _ => exact hp.elim
  | loop c ih =>
    intro p E R K σ h a w hv hf hw hE hd
    simp only [V] at hv
    split at hv
    · exact hv.elim
    · rename_i sl _
      obtain ⟨x₀, ⟨I, μ, h0, hround⟩, hs0⟩ := getS_spec sl σ _ hv
      subst hw
      let J : Nat → Act → World → Prop := fun k a w => Env w₀ w ∧ ∃ σ' x, Fr n a σ' ∧ Agr (· ∈ mods c) σ σ' ∧ setS sl σ' x = σ' ∧ TH.un sl.sh I x w.heap ∧ TH.un sl.sh μ x w.heap = k
      refine wp_loop_ghost J _ ⟨hE, σ, x₀, hf, fun _ _ => rfl, hs0, h0, rfl⟩ fun k a w hJ => ?_
      obtain ⟨hE', σ', x, hf', hag, hs, hI, hμ⟩ := hJ
      have hb := hround σ' x _ hI
      rw [TH.un_cu, mix_agr hag, hs] at hb
      refine wp_mono (ih _ E R _ σ' _ a w hb hf' rfl hE' hd) fun e a2 w2 hp => ?_
      cases e with
      | normal =>
        obtain ⟨hE2, σ2, hf2, hk2, hag2⟩ := hp
        obtain ⟨x2, hx2, hs2⟩ := getS_spec sl σ2 _ hk2
        rw [TH.un_cu] at hx2
        exact ⟨_, by rw [← hμ]; exact hx2.2, hE2, σ2, x2, hf2, (hag.trans hag2).mono fun t ht => ht.elim (fun x => x) fun x => x, hs2, hx2.1, rfl⟩
      | exit id =>
        obtain ⟨hE2, σ2, hf2, hk2, hag2⟩ := hp
        exact ⟨hE2, σ2, hf2, hk2, (hag.trans hag2).mono fun t ht => ht.elim (fun x => x) fun x => x⟩
      | ret => exact hp
      | _ => exact hp.elim
end

/-! ## A function -/
/-- What a body hands back, read by the results' shapes. -/
def getR : (ss : List Sh) → List Value → (HL ss → Prop) → Prop
  | [], [], K => K ()
  | s :: ss, v :: vs, K => s.get v fun x => getR ss vs fun y => K (x, y)
  | _, _, _ => False
theorem getR_spec : ∀ (ss : List Sh) (vs : List Value) (K : HL ss → Prop), getR ss vs K → ∃ x, vs = HL.vals ss x ∧ K x
  | [], [], _, h => ⟨(), rfl, h⟩
  | [], _ :: _, _, h => h.elim
  | _ :: _, [], _, h => h.elim
  | s :: ss, v :: vs, K, h => by
    obtain ⟨x, e1, h1⟩ := s.get_spec _ _ h
    obtain ⟨y, e2, h2⟩ := getR_spec ss vs _ h1
    exact ⟨(x, y), by rw [e1, e2]; rfl, h2⟩
def tmpsOf : List ResultVar → Option (List Nat)
  | [] => some []
  | .tmp t :: rs => (tmpsOf rs).map (t :: ·)
  | _ :: _ => none
def argS (args : List Value) : Nat → Value := fun t => args.getD t undef
/-- The whole of a function: its code, from its arguments on. -/
def VF (P : Program) (an : List (Nat × Slots)) (fn : Func) (args : List Value) (h : Heap) (ss : List Sh) (R : TH (Heap → Prop) ss) : Prop :=
  match fn.body with
  | none => False
  | some c => match tmpsOf fn.results.toList with
    | none => False
    | some rs =>
      let K : Kont := fun σ h' => getR ss (rs.map σ) fun x => TH.un ss R x h'
      V P an c 1 [] K K (argS args) h
def resF (tmps : Array Value) : ResultVar → Sem Value
  | .tmp t => pure (tmps.getD t undef)
  | .cell a t => do loadVar t (← asAddr (tmps.getD a undef))
theorem results_eq (fn : Func) (tmps : Array Value) : results fn tmps = (do
    let vs ← fn.results.mapM (resF tmps)
    pure (if h : vs.size = 1 then vs[0] else .tuple vs)) := by
  unfold results
  congr 1
theorem mapM_tmps {tmps : Array Value} {σ : Nat → Value} (hσ : ∀ t, tmps.getD t undef = σ t) {P : Program} (w : World) : ∀ (l : List ResultVar) (rs : List Nat), tmpsOf l = some rs →
    (l.mapM (resF tmps)).run P w = .ok (rs.map σ) w
  | [], rs, h => by simp only [tmpsOf, Option.some.injEq] at h; subst h; simp
  | .cell a t :: l, rs, h => by simp [tmpsOf] at h
  | .tmp t :: l, rs, h => by
    simp only [tmpsOf, Option.map_eq_some_iff] at h
    obtain ⟨rs', h', rfl⟩ := h
    simp only [List.mapM_cons, Sem.run_bind, mapM_tmps hσ w l rs' h', resF, Sem.run_pure, Result.andThen_ok, List.map_cons, hσ]
theorem results_vals {fn : Func} {rs : List Nat} (hrs : tmpsOf fn.results.toList = some rs) {tmps : Array Value} {σ : Nat → Value} (hσ : ∀ t, tmps.getD t undef = σ t) {P : Program} (w : World) {ss : List Sh} {x : HL ss}
    (hx : rs.map σ = HL.vals ss x) : (results fn tmps).run P w = .ok (retV ss x) w := by
  have h1 : (fn.results.mapM (resF tmps)).run P w = .ok (rs.map σ).toArray w := by
    have e : fn.results = fn.results.toList.toArray := rfl
    rw [e, List.mapM_toArray, Sem.run_map, mapM_tmps hσ w _ rs hrs]
    rfl
  rw [results_eq, Sem.run_bind, h1, hx]
  match ss, x with
  | [], _ => rfl
  | [s], x => rfl
  | s :: t :: ss, x =>
    simp only [Result.andThen_ok]
    rw [dif_neg (by simp [HL.vals])]
    rfl

theorem argS_at (args : List Value) (n t : Nat) : ((⟨args⟩ : Array Value) ++ Array.replicate n undef).getD t undef = argS args t := by
  unfold argS
  rw [Array.getD_eq_getD_getElem?, List.getD_eq_getElem?_getD]
  by_cases h : t < args.length
  · rw [Array.getElem?_append_left (by simpa using h)]; simp
  · rw [Array.getElem?_append_right (by simpa using h), Array.getElem?_replicate, List.getElem?_eq_none (by omega)]
    split <;> rfl
def codeOk (fn : Func) (k : Nat) : Bool :=
  match fn.body with
  | none => false
  | some c => (mods c).all (fun d => decide (d < fn.ntmps)) && decide (k ≤ fn.ntmps)
theorem VF_sound {P : Program} {an : List (Nat × Slots)} {f : FuncId} {fn : Func} {args : List Value} {h : Heap} {ss : List Sh} {R : TH (Heap → Prop) ss} (hm : P.follows .mixedOrders = true) (hf : P.funcs[f]? = some fn)
    (hok : codeOk fn args.length = true) (hv : VF P an fn args h ss R) : CallR P f args h ss R := by
  intro w hw
  unfold VF at hv
  split at hv
  · exact hv.elim
  · rename_i c hc
    split at hv
    · exact hv.elim
    · rename_i rs hrs
      simp only [codeOk, hc, Bool.and_eq_true, List.all_eq_true, decide_eq_true_eq] at hok
      refine calls_of_wp hf hc (wp_mono (V_sound (n := fn.ntmps) (w₀ := w) hm c 1 [] _ _ (argS args) h _ w hv ⟨?_, rfl, fun t => argS_at args _ t⟩ hw (Env.refl w) hok.1) fun e a' w' hp => ?_)
      · have := hok.2
        simp; omega
      have fin : ∀ σ', Fr fn.ntmps a' σ' → (getR ss (rs.map σ') fun x => TH.un ss R x w'.heap) → Env w w' → a'.defers = [] ∧ ∃ v, (results fn a'.tmps).run P w' = .ok v w' ∧ (Env w w' ∧ ∃ x, Ending.returned v = .returned (retV ss x) ∧ TH.un ss R x w'.heap) := fun σ' hfr hr hE => by
        obtain ⟨x, e1, h1⟩ := getR_spec ss _ _ hr
        exact ⟨hfr.defers, _, results_vals hrs hfr.at_ w' e1, hE, x, rfl, h1⟩
      cases e with
      | normal => obtain ⟨hE, σ', hfr, hk, _⟩ := hp; exact fin σ' hfr hk hE
      | ret => obtain ⟨hE, σ', hfr, hk⟩ := hp; exact fin σ' hfr hk hE
      | exit id => obtain ⟨_, σ', _, hk, _⟩ := hp; exact hk.elim
      | _ => exact hp.elim

/-! ## Words for the printed bodies -/
def Let {α : Type} (x : α) (K : α → Prop) : Prop := K x
def Alloc (h : Heap) (o : Obj) (K : Addr → Heap → Prop) : Prop := K ⟨h.size, 0, none⟩ (h.push o)
def App (P : Program) (t ty : TypeId) (s x : Sl) (h : Heap) (K : Sl → Heap → Prop) : Prop := OpT P (Builtin.append_ #[t, t] ty #[.slice s.a s.n s.c, .slice x.a x.n x.c]) h [.one .sl] K
def Cut (P : Program) (t : TypeId) (s : Sl) (lo hi mx : Option Value) (K : Sl → Prop) : Prop := OpP P (Instr.sliceAt t (.slice s.a s.n s.c) lo hi mx) [.one .sl] K
def CutS (P : Program) (t : TypeId) (s : ByteArray) (lo hi : Option Value) (K : ByteArray → Prop) : Prop := OpP P (Instr.sliceAt t (.string s) lo hi none) [.one .str] K
def ToS (P : Program) (t u : TypeId) (s : Sl) (h : Heap) (K : ByteArray → Prop) : Prop := OpV P (convert t u (.slice s.a s.n s.c)) h [.one .str] K
def ToB (P : Program) (t u : TypeId) (s : ByteArray) (h : Heap) (K : Sl → Heap → Prop) : Prop := OpT P (convert t u (.string s)) h [.one .sl] K
def Frz (P : Program) (t u : TypeId) (s : Sl) (h : Heap) (K : Sl → Heap → Prop) : Prop := OpT P (convert t u (.slice s.a s.n s.c)) h [.one .sl] K
def Mk (P : Program) (t : TypeId) (l c : Int) (h : Heap) (K : Sl → Heap → Prop) : Prop := OpT P (Instr.makeSlice t (.int .i64 l) (.int .i64 c)) h [.one .sl] K
def bitV (op : BinOp) (k : IntKind) (x y : Int) : Int :=
  k.wrap (match op with
    | .and => BitVec.ofInt k.bits x &&& BitVec.ofInt k.bits y
    | .or => BitVec.ofInt k.bits x ||| BitVec.ofInt k.bits y
    | .xor => BitVec.ofInt k.bits x ^^^ BitVec.ofInt k.bits y
    | _ => BitVec.ofInt k.bits x &&& ~~~ BitVec.ofInt k.bits y).toNat
def zc (P : Program) (t : TypeId) : Array Value :=
  match (P.info? t).bind (·.zero) with
  | some v => v.cells
  | none => #[]
end Go.Proofs.Ytegbnmaglkpkjaa
