/-
  That the model does what 'opW' says: each kind of operation.
-/
import Derived.Test.YtegbnmaglkpkjaaVb
namespace Go.Proofs.Ytegbnmaglkpkjaa
open Go
section
variable {P : Program}

def nwK (P : Program) (o : Oper) : Bool :=
  match o.op with
  | .move _ => true
  | .assign _ => true
  | .pick _ _ _ => true
  | .load _ _ => true
  | .nilCheck _ => true
  | .binOp _ _ _ _ _ => true
  | .indexAddr _ _ _ => true
  | .index _ _ _ => true
  | .slice _ _ _ _ _ => true
  | .lookup _ _ _ _ => true
  | .typeAssert _ _ _ _ => true
  | .unOp _ _ _ => true
  | .fieldAddr _ _ _ => true
  | .field _ _ _ => true
  | .extract _ _ => true
  | .build _ _ => true
  | .makeFunc _ _ _ => true
  | .makeInterface _ _ => true
  | .convert _ dst _ => !isSlc (P.underlying dst)
  | .call c => match c.callee with
    | .builtin .len => true
    | .builtin .cap => true
    | .builtin .min => true
    | .builtin .max => true
    | _ => false
  | _ => false

/-- Does what an operation answers hang on the heap? -/
def ns (P : Program) (o : Oper) : Bool :=
  match o.op with
  | .load _ _ => true
  | .lookup _ _ _ _ => true
  | .typeAssert _ _ _ _ => true
  | .convert src dst _ => isSlc (P.underlying src) && isStr (P.underlying dst)
  | .binOp op t _ y _ => match op with
    | .eql => match y with
      | .const (.pointer none) => false
      | .const (.slice none _ _) => false
      | .const (.map none) => false
      | _ => !basicT (P.underlying t)
    | .neq => match y with
      | .const (.pointer none) => false
      | .const (.slice none _ _) => false
      | .const (.map none) => false
      | _ => !basicT (P.underlying t)
    | _ => false
  | .call c => match c.callee with
    | .builtin .len => isMap ((c.argTypes[0]?).bind P.underlying)
    | _ => false
  | _ => false
/-- What an operation that only reads comes to. -/
def Rd (P : Program) (o : Oper) (σ : Nat → Value) (h : Heap) (v : Value) : Prop := Ans P o σ h v ∧ (ns P o = false → ∀ h', Ans P o σ h' v)
theorem Rd.all {o : Oper} {σ : Nat → Value} {v : Value} (h : Heap) (ha : ∀ h', Ans P o σ h' v) : Rd P o σ h v := ⟨ha h, fun _ => ha⟩
theorem rd_gen {o : Oper} {σ : Nat → Value} {K : Value → Prop} (h : Heap) (hg : ∃ v, K v ∧ ∀ h, Ans P o σ h v) : ∃ v, K v ∧ Rd P o σ h v := let ⟨v, a, b⟩ := hg; ⟨v, a, Rd.all h b⟩
theorem rd_ns {o : Oper} {σ : Nat → Value} {K : Value → Prop} {h : Heap} (hn : ns P o = true) (hg : ∃ v, K v ∧ Ans P o σ h v) : ∃ v, K v ∧ Rd P o σ h v :=
  let ⟨v, a, b⟩ := hg; ⟨v, a, b, fun e => by rw [hn] at e; cases e⟩

theorem equalIn_ptr {t e : TypeId} (hu : P.underlying t = some (.pointer e)) (a : Option Addr) (d : Nat) (w : World) : (Op.equalIn (d + 1) t (.pointer a) (.pointer none)).run P w = .ok a.isNone w := by
  cases a <;> simp [Op.equalIn, run_underlying hu]
theorem equalIn_slc {t e : TypeId} (hu : P.underlying t = some (.slice e)) (a : Option Addr) (n c n' c' : Nat) (d : Nat) (w : World) : (Op.equalIn (d + 1) t (.slice a n c) (.slice none n' c')).run P w = .ok a.isNone w := by
  cases a <;> simp [Op.equalIn, run_underlying hu]
theorem equalIn_map {t k e : TypeId} (hu : P.underlying t = some (.map k e)) (a : Option Nat) (d : Nat) (w : World) : (Op.equalIn (d + 1) t (.map a) (.map none)).run P w = .ok a.isNone w := by
  cases a <;> simp [Op.equalIn, run_underlying hu]

theorem binOp_bool {op : BinOp} {t : TypeId} {x y : Operand} {a b : Value} {r : Bool} {w : World} (hop : op = .eql ∨ op = .neq)
    (hg : (eqGuard op t x y a b).run P w = .ok () w) (hb : (Op.equal t a b).run P w = .ok r w)
    (hk : binOp op t a b = match op with
      | .eql => (do pure (.bool (← Op.equal t a b)))
      | _ => (do pure (.bool (!(← Op.equal t a b))))) :
    (do eqGuard op t x y a b; binOp op t a b : Sem Value).run P w = .ok (.bool (neg? op r)) w := by
  rw [Sem.run_bind, hg, hk]
  rcases hop with rfl | rfl
  · simp only [Result.andThen_ok, Sem.run_bind, hb, Sem.run_pure, neg?]
  · simp only [Result.andThen_ok, Sem.run_bind, hb, Sem.run_pure, neg?]

theorem eqW_ans {o : Oper} {op : BinOp} {t yt : TypeId} {x y : Operand} {σ : Nat → Value} {h : Heap} {K : Value → Prop} (ho : o.op = .binOp op t x y yt) (hop : op = .eql ∨ op = .neq)
    (hq : eqW P o op t x y σ h K) : ∃ v, K v ∧ Rd P o σ h v := by
  have he : execOp (evS σ) o = (do let v ← (do eqGuard op t x y (evS σ x) (evS σ y); binOp op t (evS σ x) (evS σ y) : Sem Value); pure (Next.value v)) := by
    unfold execOp; rw [ho]
  unfold eqW at hq
  split at hq
  · split at hq
    · rename_i a ha
      split at hq
      · rename_i hu
        refine ⟨_, hq, Rd.all h fun h' => ans_of he fun w hw => ⟨w, ?_, Env.refl w, hw⟩⟩
        obtain ⟨e, hu⟩ : ∃ e, P.underlying t = some (.pointer e) := by
          unfold isPtr at hu; split at hu
          · exact ⟨_, by assumption⟩
          · cases hu
        rw [ha]
        refine binOp_bool hop ?_ (equalIn_ptr hu a 9999 w) ?_
        · rcases hop with rfl | rfl <;> simp [eqGuard]
        · rcases hop with rfl | rfl <;> simp [binOp, evS]
      · exact hq.elim
    · exact hq.elim
  · split at hq
    · rename_i a n c ha
      split at hq
      · rename_i hu
        refine ⟨_, hq, Rd.all h fun h' => ans_of he fun w hw => ⟨w, ?_, Env.refl w, hw⟩⟩
        obtain ⟨e, hu⟩ : ∃ e, P.underlying t = some (.slice e) := by
          unfold isSlc at hu; split at hu
          · exact ⟨_, by assumption⟩
          · cases hu
        rw [ha]
        refine binOp_bool hop ?_ (equalIn_slc hu a n c _ _ 9999 w) ?_
        · rcases hop with rfl | rfl <;> simp [eqGuard]
        · rcases hop with rfl | rfl <;> simp [binOp, evS]
      · exact hq.elim
    · exact hq.elim
  · split at hq
    · rename_i a ha
      split at hq
      · rename_i hu
        refine ⟨_, hq, Rd.all h fun h' => ans_of he fun w hw => ⟨w, ?_, Env.refl w, hw⟩⟩
        obtain ⟨k, e, hu⟩ : ∃ k e, P.underlying t = some (.map k e) := by
          unfold isMap at hu; split at hu
          · exact ⟨_, _, by assumption⟩
          · cases hu
        rw [ha]
        refine binOp_bool hop ?_ (equalIn_map hu a 9999 w) ?_
        · rcases hop with rfl | rfl <;> simp [eqGuard]
        · rcases hop with rfl | rfl <;> simp [binOp, evS]
      · exact hq.elim
    · exact hq.elim
  · split at hq
    · exact rd_gen h (genP_ans hq)
    · rename_i hb
      obtain ⟨b, hr, hk⟩ := hq
      refine ⟨_, hk, ans_of he fun w hw => hr w hw, fun hns => ?_⟩
      exfalso
      apply hb
      unfold ns at hns
      rw [ho] at hns
      rcases hop with rfl | rfl
      · simpa using hns
      · simpa using hns

theorem binW_ans {o : Oper} {op : BinOp} {t yt : TypeId} {x y : Operand} {σ : Nat → Value} {h : Heap} {K : Value → Prop} (ho : o.op = .binOp op t x y yt)
    (hq : binW P o op t x y σ h K) : ∃ v, K v ∧ Rd P o σ h v := by
  have he : execOp (evS σ) o = (do let v ← (do eqGuard op t x y (evS σ x) (evS σ y); binOp op t (evS σ x) (evS σ y) : Sem Value); pure (Next.value v)) := by
    unfold execOp; rw [ho]
  have hgo : ∀ w, op ≠ .eql → op ≠ .neq → (eqGuard op t x y (evS σ x) (evS σ y)).run P w = .ok () w := fun w h1 h2 => by
    cases op <;> first | exact absurd rfl h1 | exact absurd rfl h2 | rfl
  have pure_of : ∀ v : Value, op ≠ .eql → op ≠ .neq → (∀ w, (binOp op t (evS σ x) (evS σ y)).run P w = .ok v w) → Rd P o σ h v := fun v h1 h2 hb =>
    Rd.all h fun h' => ans_of he fun w hw => ⟨w, by rw [Sem.run_bind, hgo w h1 h2]; exact hb w, Env.refl w, hw⟩
  cases op
  case eql => exact eqW_ans ho (.inl rfl) hq
  case neq => exact eqW_ans ho (.inr rfl) hq
  case quo =>
    simp only [binW] at hq
    split at hq
    · rename_i k m k' n hx hy
      split at hq
      · rename_i hk; subst hk
        exact ⟨_, hq.2, pure_of _ (by simp) (by simp) fun w => by rw [hx, hy]; simp [binOp, Op.intDiv, hq.1, divV]⟩
      · exact hq.elim
    · exact hq.elim
  case rem =>
    simp only [binW] at hq
    split at hq
    · rename_i k m k' n hx hy
      split at hq
      · rename_i hk; subst hk
        exact ⟨_, hq.2, pure_of _ (by simp) (by simp) fun w => by rw [hx, hy]; simp [binOp, Op.intDiv, hq.1, divV]⟩
      · exact hq.elim
    · exact hq.elim
  case shl =>
    simp only [binW] at hq
    split at hq
    · rename_i k m k' n hx hy
      exact ⟨_, hq.2, pure_of _ (by simp) (by simp) fun w => by
        rw [hx, hy]; have h0 := hq.1; simp [binOp, Op.shift, show ¬ n < 0 by omega, shiftV]⟩
    · exact hq.elim
  case shr =>
    simp only [binW] at hq
    split at hq
    · rename_i k m k' n hx hy
      exact ⟨_, hq.2, pure_of _ (by simp) (by simp) fun w => by
        rw [hx, hy]; have h0 := hq.1; simp [binOp, Op.shift, show ¬ n < 0 by omega, shiftV]⟩
    · exact hq.elim
  case add =>
    simp only [binW] at hq
    split at hq
    · rename_i s hx
      split at hq
      · rename_i s' hy
        exact ⟨_, hq.2, pure_of _ (by simp) (by simp) fun w => by
          have hm : IntKind.i64.max = 9223372036854775807 := by decide
          rw [hx, hy]; have h0 := hq.1; simp only [binOp, Op.stringOp, hm]; rw [if_neg (by omega)]; rfl⟩
      · exact hq.elim
    · exact rd_gen h (genP_ans hq)
  all_goals exact rd_gen h (genP_ans hq)

theorem info_run {e : TypeId} {j : TypeInfo} (hj : P.info? e = some j) (w : World) : (sizeOf e).run P w = .ok j.size w := by
  unfold sizeOf; rw [Sem.run_bind, show (typeInfo e).run P w = .ok j w by simp [typeInfo, hj, program, Sem.run_bind, Sem.run]]; rfl

theorem idxW_ans {o : Oper} {t : TypeId} {x i : Operand} {σ : Nat → Value} {h : Heap} {K : Value → Prop} (ho : o.op = .indexAddr t x i)
    (hq : idxW P t (evS σ x) (evS σ i) K) : ∃ v, K v ∧ Rd P o σ h v := by
  have he : execOp (evS σ) o = (do let v ← Instr.indexAt t (evS σ x) (evS σ i); pure (Next.value v)) := by
    unfold execOp; rw [ho]
  unfold idxW at hq
  split at hq
  · rename_i e hu
    split at hq
    · rename_i j hj
      split at hq
      · rename_i a n c hx
        split at hq
        · rename_i k m hi
          obtain ⟨a', ha, h0, h1, hk⟩ := hq
          simp only at ha
          subst ha
          refine ⟨_, hk, Rd.all h fun h' => ans_of he fun w hw => ⟨w, ?_, Env.refl w, hw⟩⟩
          rw [hx, hi]
          have h1' : m < (n : Int) := h1
          simp [Instr.indexAt, asIntOf, run_underlying hu, info_run hj, h0, h1']
        · exact hq.elim
      · exact hq.elim
    · exact hq.elim
  · rename_i n e hu
    split at hq
    · rename_i j hj
      split at hq
      · rename_i a hx
        split at hq
        · rename_i k m hi
          obtain ⟨h0, h1, hk⟩ := hq
          refine ⟨_, hk, Rd.all h fun h' => ans_of he fun w hw => ⟨w, ?_, Env.refl w, hw⟩⟩
          rw [hx, hi]
          simp [Instr.indexAt, asIntOf, Instr.sureAddr, run_underlying hu, info_run hj, h0, h1]
        · exact hq.elim
      · exact hq.elim
    · exact hq.elim
  · exact hq.elim

theorem indexW_ans {o : Oper} {t : TypeId} {x i : Operand} {σ : Nat → Value} {h : Heap} {K : Value → Prop} (ho : o.op = .index t x i)
    (hq : indexW P o t (evS σ x) (evS σ i) K) : ∃ v, K v ∧ Rd P o σ h v := by
  have he : execOp (evS σ) o = (do let v ← Instr.index t (evS σ x) (evS σ i); pure (Next.value v)) := by
    unfold execOp; rw [ho]
  unfold indexW at hq
  split at hq
  · rename_i hu
    split at hq
    · rename_i s hx
      split at hq
      · rename_i k m hi
        obtain ⟨b, h0, hb, hk⟩ := hq
        refine ⟨_, hk, Rd.all h fun h' => ans_of he fun w hw => ⟨w, ?_, Env.refl w, hw⟩⟩
        rw [hx, hi]
        simp [Instr.index, asIntOf, run_underlying hu, h0, hb]
      · exact hq.elim
    · exact hq.elim
  · exact rd_gen h (OpP.ans he hq)

theorem map_toList (xs : Array Operand) (f : Operand → Value) : (⟨(xs.map f).toList⟩ : Array Value) = xs.map f := rfl

theorem nw_ans {o : Oper} {σ : Nat → Value} {h : Heap} {K : Value → Heap → Prop} (hn : nwK P o = true) (hq : opW P o σ h K) : ∃ v, K v h ∧ Rd P o σ h v := by
  obtain ⟨dst, op, type, pos, after, guard⟩ := o
  cases op <;> simp only [nwK, Bool.false_eq_true] at hn <;> simp only [opW] at hq
  case move x => exact ⟨_, hq, Rd.all h fun h' => ans_pure h' rfl⟩
  case assign x => exact ⟨_, hq, Rd.all h fun h' => ans_pure h' rfl⟩
  case pick c a b =>
    split at hq
    · rename_i t ht
      refine ⟨_, hq, Rd.all h fun h' w hw => ⟨w, ?_, Env.refl w, hw⟩⟩
      simp only [execOp, ht, asBool, pickV_eq]
      cases t <;> rfl
    · exact hq.elim
  case load t x =>
    split at hq
    · rename_i a ha
      obtain ⟨v, hk, hr⟩ := LdS_run hq
      refine rd_ns rfl ⟨v, hk, ans_of (s := Instr.loadAt t (.pointer (some a))) ?_ hr⟩
      simp only [execOp, ha]
    · exact hq.elim
  case nilCheck x =>
    unfold NnI at hq
    split at hq
    · rename_i a ha
      obtain ⟨a', rfl, hk⟩ := hq
      refine ⟨_, hk, Rd.all h fun h' => ans_pure h' ?_⟩
      simp only [execOp, ha]
    · rename_i t v ha
      refine ⟨_, hq, Rd.all h fun h' => ans_pure h' ?_⟩
      simp only [execOp, ha]
    · rename_i f fs cap ha
      refine ⟨_, hq, Rd.all h fun h' => ans_pure h' ?_⟩
      simp only [execOp, ha]
    · exact hq.elim
  case binOp op t x y yt => exact binW_ans rfl hq
  case indexAddr t x i => exact idxW_ans rfl hq
  case index t x i => exact indexW_ans rfl hq
  case slice t x lo hi mx => exact rd_gen h (OpP.ans rfl hq)
  case lookup t x i ok => exact rd_ns rfl (OpV.ans rfl hq)
  case typeAssert x t u ok => exact rd_ns rfl (OpV.ans rfl hq)
  case convert src dst x =>
    have hn' : isSlc (P.underlying dst) = false := by rwa [Bool.not_eq_true'] at hn
    unfold convW at hq
    rw [if_neg (by simp [hn'])] at hq
    split at hq
    · rename_i hsl
      exact rd_ns hsl (OpV.ans rfl hq)
    · exact rd_gen h (genP_ans hq)
  case call c =>
    obtain ⟨callee, args, argTypes⟩ := c
    cases callee with
    | builtin b =>
      have he : ∀ s : Sem Value, builtin b argTypes type (args.map fun | .const _ => true | _ => false) (args.map (evS σ)) = (do let v ← s; pure (Next.value v)) →
          execOp (evS σ) ⟨dst, .call ⟨.builtin b, args, argTypes⟩, type, pos, after, guard⟩ = (do let v ← s; pure (Next.value v)) := fun s hs => by
        rw [← hs]; rfl
      cases b <;> first | (exact Bool.noConfusion hn) | skip
      case len =>
        simp only [callW, bltW] at hq
        split at hq
        · rename_i hm
          obtain ⟨n, hr, hk⟩ := hq
          exact rd_ns hm ⟨_, hk, ans_of (he (Builtin.len_ argTypes type (args.map (evS σ))) rfl) hr⟩
        · exact rd_gen h (genP_ans hq)
      case cap => exact rd_gen h (genP_ans hq)
      case min => exact rd_gen h (genP_ans hq)
      case max => exact rd_gen h (genP_ans hq)
    | value f => exact Bool.noConfusion hn
    | invoke r m => exact Bool.noConfusion hn
  all_goals exact rd_gen h (genP_ans hq)

theorem callFunc_enter {g : FuncId} {args : Array Value} (hg : okF P g = true) (w : World) : (callFunc g args).run P w = .ok (.enter g args) w := by
  unfold okF at hg
  cases hf : P.funcs[g]? with
  | none => rw [hf] at hg; cases hg
  | some fn =>
    rw [hf] at hg
    simp only [Bool.and_eq_true, Bool.not_eq_true'] at hg
    have hb : ¬ fn.body = none := by
      intro hb; rw [hb] at hg; exact Bool.noConfusion hg.1
    have hn : ¬ fn.name = "runtime.NumGoroutine" := by
      intro hn; rw [hn] at hg; simp at hg
    simp [callFunc, program, Sem.run, Sem.run_bind, hf, hn, hb]

theorem CallR.done {g : FuncId} {args : Array Value} {w : World} {h : Heap} {ss : List Sh} {K : Value → Heap → Prop} (hg : okF P g = true) (hw : w.heap = h)
    (hc : CallR P g args.toList h ss (tT ss K)) : Done P K w ((callFunc g args).run P w) := by
  subst hw
  rw [callFunc_enter hg]
  refine ⟨Env.refl w, CallsH.mono hc ?_⟩
  rintro e h' ⟨x, rfl, hk⟩
  rw [tT_un] at hk
  exact ⟨_, rfl, hk⟩

theorem invoke_iface (t : TypeId) (v : Value) (m : String) (xs : Array Value) : invoke (.fn (.method m) #[]) (#[Value.iface t v] ++ xs) = callMethod (.iface t v) m xs := by
  have h0 : (#[Value.iface t v] ++ xs)[0]? = some (Value.iface t v) := by rw [Array.getElem?_append_left (by simp)]; rfl
  have h1 : (#[Value.iface t v] ++ xs).extract 1 (#[Value.iface t v] ++ xs).size = xs := by simp
  unfold invoke
  simp only [h0, h1]
theorem opW_done {o : Oper} {σ : Nat → Value} {h : Heap} {K : Value → Heap → Prop} (hq : opW P o σ h K) (w : World) (hw : w.heap = h) : Done P K w ((execOp (evS σ) o).run P w) := by
  by_cases hn : nwK P o = true
  · obtain ⟨v, hk, ha⟩ := nw_ans hn hq
    exact ha.1.done hk w hw
  · obtain ⟨dst, op, type, pos, after, guard⟩ := o
    cases op <;> (first | (exact absurd rfl hn) | skip) <;> simp only [opW] at hq
    case store t x v =>
      split at hq
      · rename_i a ha
        obtain ⟨w', hr, hE, hk⟩ := StS_run hq w hw
        have he : execOp (evS σ) ⟨dst, .store t x v, type, pos, after, guard⟩ = (do Instr.storeAt t (.pointer (some a)) (evS σ v); pure Next.skip) := by simp only [execOp, ha]
        rw [he, run_map_skip, hr]
        exact ⟨hE, hk⟩
      · exact hq.elim
    case convert src dst' x =>
      unfold convW at hq
      split at hq
      · exact OpT.done rfl hq w hw
      · rename_i h1
        exact absurd (show (!isSlc (P.underlying dst')) = true by rw [Bool.not_eq_true', ← Bool.not_eq_true]; exact h1) hn
    case call c =>
      obtain ⟨callee, args, argTypes⟩ := c
      cases callee with
      | builtin b =>
        have he : ∀ s : Sem Value, builtin b argTypes type (args.map fun | .const _ => true | _ => false) (args.map (evS σ)) = (do let v ← s; pure (Next.value v)) →
            execOp (evS σ) ⟨dst, .call ⟨.builtin b, args, argTypes⟩, type, pos, after, guard⟩ = (do let v ← s; pure (Next.value v)) := fun s hs => by
          rw [← hs]; rfl
        cases b <;> simp only [callW, bltW] at hq <;> (first | exact hq.elim | skip)
        case append => exact OpT.done (he _ rfl) hq w hw
        case copy => exact OpT.done (he _ rfl) hq w hw
        case clear => exact OpT.done (he _ rfl) hq w hw
        case delete => exact OpT.done (he _ rfl) hq w hw
        all_goals exact absurd rfl hn
      | value f =>
        simp only [callW] at hq
        split at hq
        · rename_i g first cap hf
          have he : execOp (evS σ) ⟨dst, .call ⟨.value f, args, argTypes⟩, type, pos, after, guard⟩ = callFunc g (first ++ args.map (evS σ) ++ cap) := by
            simp only [execOp, resolve, hf]; rfl
          rw [he]
          cases hg : okF P g with
          | true =>
            rw [hg] at hq
            exact CallR.done hg hw hq
          | false =>
            rw [hg] at hq
            obtain ⟨nx, w', hr, hE, x, rfl, hk⟩ := hq w hw
            rw [tT_un] at hk
            rw [hr]
            exact ⟨hE, hk⟩
        · exact hq.elim
      | invoke r m =>
        simp only [callW] at hq
        unfold Invk at hq
        split at hq
        · rename_i g rv hm
          unfold mthW at hm
          split at hm
          · rename_i t v hv
            have he : execOp (evS σ) ⟨dst, .call ⟨.invoke r m, args, argTypes⟩, type, pos, after, guard⟩ = callMethod (.iface t v) m (args.map (evS σ)) := by
              have hi : invoke (.fn (.method m) #[]) (#[Value.iface t v] ++ args.map (evS σ)) = callMethod (.iface t v) m (args.map (evS σ)) := by
                exact invoke_iface t v m _
              rw [← hi]
              simp only [execOp, resolve, hv]
              rfl
            have hr := semP_run _ w hm
            have hc : (callMethod (.iface t v) m (args.map (evS σ))).run P w = (callFunc g (#[rv] ++ args.map (evS σ))).run P w := by
              simp [callMethod, Sem.run_bind, program, Sem.run, hr]
            rw [he, hc]
            exact CallR.done hq.1 hw (by simpa using hq.2)
          · cases hm
        · exact hq.elim
    case mapUpdate t m k x => exact OpU.done rfl hq w hw
    case insert t m k x => exact OpU.done rfl hq w hw
    case makeSlice t l c => exact OpT.done rfl hq w hw
    case makeMap t r => exact OpT.done rfl hq w hw
    case range t x => exact OpT.done rfl hq w hw
    case next it s => exact OpT.done rfl hq w hw
    case alloc e => exact genA_done hq w hw
    case box e v => exact genA_done hq w hw
    case buildSlice t n ps => exact genA_done hq w hw
    all_goals exact hq.elim
end
end Go.Proofs.Ytegbnmaglkpkjaa
