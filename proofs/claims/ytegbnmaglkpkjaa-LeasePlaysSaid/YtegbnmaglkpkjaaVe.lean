/-
  A region that draws its order does, in every order that its edges allow, what 'T' says of one.
-/
import Derived.Test.YtegbnmaglkpkjaaVd
namespace Go.Proofs.Ytegbnmaglkpkjaa
open Go

section
variable {P : Program} {ops : Array Oper}

/-! ### What stands ahead of what -/
def fIn (acc : Array Nat) (s : Nat) (e : Edge) : Nat := if Region.binds .any e then s ||| 2 ^ e.on ||| acc.getD e.on 0 else s
def fB (acc : Array Nat) (o : Oper) : Array Nat := acc.push (o.after.foldl (fIn acc) 0)
theorem before_eq (ops : Array Oper) : Region.before ops = ops.toList.foldl fB #[] := by
  unfold Region.before
  rw [← Array.foldl_toList]
  rfl
theorem inner_bit (acc : Array Nat) (i : Nat) : ∀ (es : List Edge) (s : Nat), (es.foldl (fIn acc) s).testBit i = true →
    s.testBit i = true ∨ ∃ e ∈ es, Region.binds .any e = true ∧ (i = e.on ∨ (acc.getD e.on 0).testBit i = true)
  | [], s, h => .inl h
  | e :: es, s, h => by
    rcases inner_bit acc i es _ h with h1 | ⟨e', he', hb⟩
    · unfold fIn at h1
      split at h1
      · rename_i hb
        simp only [Nat.testBit_or, Bool.or_eq_true, Nat.testBit_two_pow, decide_eq_true_eq] at h1
        rcases h1 with (h1 | h1) | h1
        · exact .inl h1
        · exact .inr ⟨e, List.mem_cons_self .., hb, .inl h1.symm⟩
        · exact .inr ⟨e, List.mem_cons_self .., hb, .inr h1⟩
      · exact .inl h1
    · exact .inr ⟨e', List.mem_cons_of_mem _ he', hb⟩
def BInv (pre : List Oper) (acc : Array Nat) : Prop :=
  acc.size = pre.length ∧ ∀ k i, (acc.getD k 0).testBit i = true → ∃ o, pre[k]? = some o ∧ ∃ e ∈ o.after.toList, Region.binds .any e = true ∧ (i = e.on ∨ (acc.getD e.on 0).testBit i = true)
theorem BInv.step {pre : List Oper} {acc : Array Nat} (h : BInv pre acc) (o : Oper) : BInv (pre ++ [o]) (fB acc o) := by
  obtain ⟨hs, hb⟩ := h
  have keep : ∀ k i, (acc.getD k 0).testBit i = true → ((fB acc o).getD k 0).testBit i = true := by
    intro k i hk
    by_cases hlt : k < acc.size
    · have : (fB acc o).getD k 0 = acc.getD k 0 := by
        simp only [fB, Array.getD_eq_getD_getElem?, Array.getElem?_push]
        rw [if_neg (by omega)]
      rw [this]; exact hk
    · rw [Array.getD_eq_getD_getElem?, Array.getElem?_eq_none (by omega)] at hk
      simp at hk
  refine ⟨by simp [fB, hs], fun k i hk => ?_⟩
  by_cases hlt : k < acc.size
  · have e1 : (fB acc o).getD k 0 = acc.getD k 0 := by
      simp only [fB, Array.getD_eq_getD_getElem?, Array.getElem?_push]
      rw [if_neg (by omega)]
    rw [e1] at hk
    obtain ⟨o', ho', e, he, hbd, hor⟩ := hb k i hk
    refine ⟨o', by rw [List.getElem?_append_left (by omega)]; exact ho', e, he, hbd, hor.imp id (keep _ _)⟩
  · by_cases heq : k = acc.size
    · subst heq
      have e1 : (fB acc o).getD acc.size 0 = o.after.toList.foldl (fIn acc) 0 := by
        simp [fB, Array.getD_eq_getD_getElem?]
      rw [e1] at hk
      rcases inner_bit acc i _ _ hk with h0 | ⟨e, he, hbd, hor⟩
      · simp at h0
      · exact ⟨o, by rw [hs]; simp, e, he, hbd, hor.imp id (keep _ _)⟩
    · have : (fB acc o).getD k 0 = 0 := by
        rw [Array.getD_eq_getD_getElem?, Array.getElem?_eq_none (by simp [fB]; omega)]; rfl
      rw [this] at hk
      simp at hk
theorem BInv.all : ∀ (l pre : List Oper) (acc : Array Nat), BInv pre acc → BInv (pre ++ l) (l.foldl fB acc)
  | [], pre, acc, h => by simpa using h
  | o :: l, pre, acc, h => by
    have := BInv.all l (pre ++ [o]) (fB acc o) (h.step o)
    simpa using this
theorem bef_step {i k : Nat} (h : bef ops i k = true) : ∃ o, ops[k]? = some o ∧ ∃ e ∈ o.after.toList, Region.binds .any e = true ∧ (i = e.on ∨ bef ops i e.on = true) := by
  have hI := BInv.all ops.toList [] #[] ⟨rfl, fun k i hk => by simp at hk⟩
  rw [← before_eq] at hI
  obtain ⟨o, ho, he⟩ := hI.2 k i h
  exact ⟨o, by simpa using ho, he⟩

/-- A set that holds what stands ahead of what it holds. -/
def Cl (ops : Array Oper) (S : Nat → Prop) : Prop := ∀ k o, S k → ops[k]? = some o → ∀ e ∈ o.after.toList, Region.binds .any e = true → S e.on
def Down (ops : Array Oper) : Prop := ∀ k o, ops[k]? = some o → ∀ e ∈ o.after.toList, Region.binds .any e = true → e.on < k
theorem bef_in {S : Nat → Prop} (hd : Down ops) (hS : Cl ops S) (i : Nat) : ∀ k, bef ops i k = true → S k → S i := by
  intro k
  induction k using Nat.strongRecOn with
  | _ k ih =>
    intro hb hk
    obtain ⟨o, ho, e, he, hbd, hor⟩ := bef_step hb
    have h1 := hS k o hk ho e he hbd
    rcases hor with rfl | h2
    · exact h1
    · exact ih e.on (hd k o ho e he hbd) h2 h1
theorem bef_rdy {S : Nat → Prop} (hd : Down ops) (hS : Cl ops S) {i k : Nat} {o : Oper} (ho : ops[k]? = some o) (hr : ∀ e ∈ o.after.toList, Region.binds .any e = true → S e.on)
    (hb : bef ops i k = true) : S i := by
  obtain ⟨o', ho', e, he, hbd, hor⟩ := bef_step hb
  rw [ho] at ho'
  injection ho' with ho'
  subst ho'
  rcases hor with rfl | h2
  · exact hr e he hbd
  · exact bef_in hd hS i e.on h2 (hr e he hbd)

theorem lt_of_get {k : Nat} {o : Oper} (h : ops[k]? = some o) : k < ops.size := (Array.getElem?_eq_some_iff.1 h).1
theorem chk_down (h : chk ops = true) : Down ops := by
  intro k o ho e he hb
  have := List.all_eq_true.1 h k (by simpa using lt_of_get ho)
  simp only [ho, Bool.and_eq_true, List.all_eq_true] at this
  have := this.1 e he
  simpa [hb] using this
theorem chk_slots (h : chk ops = true) {k j d : Nat} {o o' : Oper} (ho : ops[k]? = some o) (hd : o.dst = some d) (ho' : ops[j]? = some o') (hne : j ≠ k)
    (hm : d ∈ o'.looksAt ops ∨ o'.dst = some d) : bef ops k j = true ∨ bef ops j k = true := by
  have h1 := List.all_eq_true.1 h k (by simpa using lt_of_get ho)
  simp only [dstOf, ho, Option.bind_some, hd, Bool.and_eq_true, List.all_eq_true] at h1
  have h2 := h1.2 j (by simpa using lt_of_get ho')
  have h3 : isD ops j d = true ∨ d ∈ looks ops j := by
    rcases hm with hm | hm
    · exact .inr (by unfold looks; rw [ho']; exact hm)
    · exact .inl (by simp [isD, dstOf, ho', hm])
  simp only [beq_ff hne, Bool.false_or, Bool.or_eq_true, Bool.and_eq_true, Bool.not_eq_true', List.contains_eq_mem, decide_eq_false_iff_not] at h2
  rcases h2 with (h2 | h2) | h2
  · rcases h3 with h3 | h3
    · rw [h2.2] at h3; cases h3
    · exact absurd h3 h2.1
  · exact .inl h2
  · exact .inr h2
theorem nw_spec {i : Nat} (h : nw P ops i = true) : ∃ o d, ops[i]? = some o ∧ o.dst = some d ∧ nwK P o = true ∧ d ∉ o.looksAt ops ∧
    ∀ k o', ops[k]? = some o' → k ≠ i → (d ∈ o'.looksAt ops ∨ o'.dst = some d) → bef ops i k = true := by
  unfold nw at h
  split at h
  · cases h
  · rename_i o ho
    simp only [Bool.and_eq_true] at h
    have h2 := h.2
    unfold ssa at h2
    split at h2
    · cases h2
    · rename_i d hd
      have hd' : o.dst = some d := by simpa [dstOf, ho] using hd
      rw [List.all_eq_true] at h2
      refine ⟨o, d, ho, hd', h.1, ?_, fun k o' ho' hne hm => ?_⟩
      · have := h2 i (by simpa using lt_of_get ho)
        have e : Nat.beq i i = true := by simp
        simp only [e, if_true, looks, ho, Bool.not_eq_true', List.contains_eq_mem, decide_eq_false_iff_not] at this
        exact this
      · have := h2 k (by simpa using lt_of_get ho')
        simp only [beq_ff hne, Bool.false_eq_true, if_false, Bool.or_eq_true, Bool.and_eq_true, Bool.not_eq_true', List.contains_eq_mem, decide_eq_false_iff_not] at this
        rcases this with h3 | h3
        · rcases hm with hm | hm
          · exact absurd (by unfold looks; rw [ho']; exact hm) h3.1
          · have : isD ops k d = true := by simp [isD, dstOf, ho', hm]
            rw [h3.2] at this; cases this
        · exact h3

theorem nwK_sel {o : Oper} (h : nwK P o = true) : ∀ cs b, o.op ≠ .select cs b := by
  intro cs b e
  unfold nwK at h
  rw [e] at h
  cases h
theorem opW_sel {o : Oper} {σ : Nat → Value} {h : Heap} {K : Value → Heap → Prop} (hq : opW P o σ h K) : ∀ cs b, o.op ≠ .select cs b := by
  intro cs b e
  unfold opW at hq
  rw [e] at hq
  exact hq
theorem exec_looks {o : Oper} {σ σ' : Nat → Value} (hs : ∀ cs b, o.op ≠ .select cs b) (h : ∀ t ∈ o.looksAt ops, σ t = σ' t) : execOp (evS σ) o = execOp (evS σ') o := by
  refine execOp_congr o hs fun x hx => ?_
  cases x with
  | tmp t => exact h t (List.mem_append_left _ (List.mem_filterMap.2 ⟨.tmp t, by simpa using hx, rfl⟩))
  | _ => rfl
theorem want_looks {o : Oper} {σ σ' : Nat → Value} (h : ∀ t ∈ o.looksAt ops, σ t = σ' t) : wantS ops o σ = wantS ops o σ' := by
  unfold wantS
  cases hg : o.guard with
  | none => rfl
  | some g =>
    obtain ⟨j, want⟩ := g
    simp only
    cases hd : (ops[j]?).bind (·.dst) with
    | none => rfl
    | some d =>
      have : σ d = σ' d := h d (List.mem_append_right _ (by rw [hg]; simp [hd]))
      simp only [this]
theorem Ans.looks {o : Oper} {σ σ' : Nat → Value} {h : Heap} {v : Value} (hs : ∀ cs b, o.op ≠ .select cs b) (he : ∀ t ∈ o.looksAt ops, σ t = σ' t) (ha : Ans P o σ h v) : Ans P o σ' h v := by
  unfold Ans at *
  rw [← exec_looks hs he]
  exact ha
theorem Rd.looks {o : Oper} {σ σ' : Nat → Value} {h : Heap} {v : Value} (hs : ∀ cs b, o.op ≠ .select cs b) (he : ∀ t ∈ o.looksAt ops, σ t = σ' t) (ha : Rd P o σ h v) : Rd P o σ' h v :=
  ⟨ha.1.looks hs he, fun hn h' => (ha.2 hn h').looks hs he⟩

theorem tb (L i j : Nat) : (L ||| 2 ^ i).testBit j = true ↔ L.testBit j = true ∨ j = i := by
  rw [Nat.testBit_or, Bool.or_eq_true, Nat.testBit_two_pow, decide_eq_true_eq]
  constructor
  · rintro (h | h)
    · exact .inl h
    · exact .inr h.symm
  · rintro (h | h)
    · exact .inl h
    · exact .inr h.symm
theorem rdy_spec {L i : Nat} : rdy ops L i = true ↔ ∃ o, ops[i]? = some o ∧ Nat.testBit L i = false ∧ ∀ e ∈ o.after.toList, Region.binds .any e = true → Nat.testBit L e.on = true := by
  unfold rdy
  cases ho : ops[i]? with
  | none => simp
  | some o =>
    simp only [Bool.and_eq_true, Bool.not_eq_true', List.all_eq_true, Bool.or_eq_true]
    constructor
    · rintro ⟨h1, h2⟩
      exact ⟨o, rfl, h1, fun e he hb => (h2 e he).resolve_left (by simp [hb])⟩
    · rintro ⟨o', ho', h1, h2⟩
      injection ho' with ho'
      subst ho'
      refine ⟨h1, fun e he => ?_⟩
      cases hb : Region.binds .any e with
      | true => exact .inr (h2 e he hb)
      | false => exact .inl rfl
theorem getD_tf {A : Array Bool} {i : Nat} (h : i < A.size) : A.getD i true = A.getD i false := by simp [Array.getD, h]
theorem ready_spec {A : Array Bool} {i : Nat} (hsz : A.size = ops.size) : i ∈ Region.ready .any ops A ↔ ∃ o, ops[i]? = some o ∧ A.getD i false = false ∧ ∀ e ∈ o.after.toList, Region.binds .any e = true → A.getD e.on false = true := by
  unfold Region.ready
  rw [List.mem_filter]
  cases ho : ops[i]? with
  | none => simp
  | some o =>
    simp only [List.mem_range, Option.map_some, Option.getD_some, Bool.and_eq_true, Bool.not_eq_true', Array.all_eq_true_iff_forall_mem, Bool.or_eq_true]
    constructor
    · rintro ⟨hlt, h1, h2⟩
      rw [getD_tf (by omega)] at h1
      exact ⟨o, rfl, h1, fun e he hb => (h2 e (by simpa using he)).resolve_left (by simp [hb])⟩
    · rintro ⟨o', ho', h1, h2⟩
      injection ho' with ho'
      subst ho'
      have hlt := lt_of_get ho
      refine ⟨hlt, by rw [getD_tf (by omega)]; exact h1, fun e he => ?_⟩
      cases hb : Region.binds .any e with
      | true => exact .inr (h2 e (by simpa using he) hb)
      | false => exact .inl rfl

/-- What was read ahead is what would be read now. -/
def Val (P : Program) (ops : Array Oper) (r : Nat) (σ : Nat → Value) (h : Heap) : Prop :=
  ∀ o d, ops[r]? = some o → o.dst = some d → (wantS ops o σ = true → Rd P o σ h (σ d)) ∧ (wantS ops o σ = false → σ d = undef)
structure Inv (P : Program) (ops : Array Oper) (A : Array Bool) (L : Nat) (σa σc : Nat → Value) (h : Heap) : Prop where
  sizeA : A.size = ops.size
  sub : ∀ i, A.getD i false = true → Nat.testBit L i = true
  clA : Cl ops fun i => A.getD i false = true
  clL : Cl ops fun i => Nat.testBit L i = true
  bound : ∀ i, Nat.testBit L i = true → i < ops.size
  pend : ∀ r, Nat.testBit L r = true → A.getD r false = false → nw P ops r = true ∧ Val P ops r σc h
  agr : ∀ t, (∀ r, Nat.testBit L r = true → A.getD r false = false → dstOf ops r ≠ some t) → σa t = σc t

theorem runG_nw {o : Oper} {σ : Nat → Value} {h : Heap} {K : Kont} (hn : nwK P o = true) (hr : runG P ops o σ h K K) :
    ∃ v, K (putS σ o.dst v) h ∧ (wantS ops o σ = true → Rd P o σ h v) ∧ (wantS ops o σ = false → v = undef) := by
  rcases runG_cases hr with ⟨hw, hq⟩ | ⟨hw, hq⟩
  · obtain ⟨v, hk, hv⟩ := nw_ans hn hq
    exact ⟨v, hk, fun _ => hv, fun e => by rw [hw] at e; cases e⟩
  · exact ⟨undef, hq, (fun e => by rw [hw] at e; cases e), fun _ => rfl⟩

section
variable {A : Array Bool} {L : Nat} {σa σc : Nat → Value} {h : Heap}
theorem cl_or {i : Nat} {o : Oper} (hc : Cl ops fun j => Nat.testBit L j = true) (ho : ops[i]? = some o) (hr : ∀ e ∈ o.after.toList, Region.binds .any e = true → Nat.testBit L e.on = true) :
    Cl ops fun j => Nat.testBit (L ||| 2 ^ i) j = true := by
  intro k o' hk ho' e he hb
  rw [tb]
  rcases (tb L i k).1 hk with hk | rfl
  · exact .inl (hc k o' hk ho' e he hb)
  · rw [ho] at ho'; injection ho' with ho'; subst ho'
    exact .inl (hr e he hb)
/-- A slot that is written now is none that something read ahead looks at, or writes. -/
theorem Val.put {r d : Nat} {v : Value} (hv : Val P ops r σc h) (hr : nw P ops r = true)
    (hno : ∀ o', ops[r]? = some o' → ¬ (d ∈ o'.looksAt ops ∨ o'.dst = some d)) : Val P ops r (up σc d v) h := by
  obtain ⟨o', d', ho', hd', hk, _, _⟩ := nw_spec hr
  have h1 := hno o' ho'
  have e1 : ∀ t ∈ o'.looksAt ops, σc t = up σc d v t := fun t ht => (up_ne (fun e => h1 (.inl (by rw [← e]; exact ht)))).symm
  intro o2 d2 ho2 hd2
  rw [ho'] at ho2; injection ho2 with ho2; subst ho2
  rw [hd'] at hd2; injection hd2 with hd2; subst hd2
  have e2 : up σc d v d' = σc d' := up_ne fun e => h1 (.inr (by rw [hd', e]))
  rw [← want_looks e1, e2]
  obtain ⟨a, b⟩ := hv o' d' ho' hd'
  exact ⟨fun hw => (a hw).looks (nwK_sel hk) e1, b⟩
theorem Inv.nwStep {i : Nat} {o : Oper} {K : Kont} (hd : Down ops) (hI : Inv P ops A L σa σc h) (hr : rdy ops L i = true) (hn : nw P ops i = true) (ho : ops[i]? = some o) (hg : runG P ops o σc h K K) :
    ∃ v, Inv P ops A (L ||| 2 ^ i) σa (putS σc o.dst v) h ∧ K (putS σc o.dst v) h := by
  obtain ⟨o', d, ho', hd', hk, hself, hssa⟩ := nw_spec hn
  rw [ho] at ho'; injection ho' with ho'; subst ho'
  obtain ⟨v, hK, hv1, hv2⟩ := runG_nw hk hg
  refine ⟨v, ?_, hK⟩
  obtain ⟨o2, ho2, hni, hed⟩ := rdy_spec.1 hr
  rw [ho] at ho2; injection ho2 with ho2; subst ho2
  rw [hd']
  show Inv P ops A (L ||| 2 ^ i) σa (up σc d v) h
  refine ⟨hI.sizeA, fun j hj => (tb L i j).2 (.inl (hI.sub j hj)), hI.clA, cl_or hI.clL ho hed, fun j hj => ?_, fun r hr1 hr2 => ?_, fun t ht => ?_⟩
  · rcases (tb L i j).1 hj with h1 | rfl
    · exact hI.bound j h1
    · exact lt_of_get ho
  · rcases (tb L i r).1 hr1 with h1 | rfl
    · obtain ⟨ha, hb⟩ := hI.pend r h1 hr2
      refine ⟨ha, hb.put ha fun o' ho' hm => ?_⟩
      have hri : r ≠ i := fun e => by rw [e, hni] at h1; cases h1
      have := bef_in hd hI.clL i r (hssa r o' ho' hri hm) h1
      rw [hni] at this; cases this
    · refine ⟨hn, fun o2 d2 ho2 hd2 => ?_⟩
      rw [ho] at ho2; injection ho2 with ho2; subst ho2
      rw [hd'] at hd2; injection hd2 with hd2; subst hd2
      have e1 : ∀ t ∈ o.looksAt ops, σc t = up σc d v t := fun t ht => (up_ne (fun e => hself (by rw [← e]; exact ht))).symm
      rw [← want_looks e1, up_eq]
      exact ⟨fun hw => (hv1 hw).looks (nwK_sel hk) e1, hv2⟩
  · have hAi : A.getD i false = false := by
      cases e : A.getD i false with
      | true => rw [hI.sub i e] at hni; cases hni
      | false => rfl
    have htd : t ≠ d := fun e => ht i ((tb L i i).2 (.inr rfl)) hAi (by simp [dstOf, ho, hd', e])
    rw [up_ne htd]
    exact hI.agr t fun r h1 h2 => ht r ((tb L i r).2 (.inl h1)) h2
theorem T_norm {K : Kont} (hd : Down ops) : ∀ (f L : Nat) (σc : Nat → Value), Inv P ops A L σa σc h → T P ops f L K σc h →
    ∃ f' L' σc', Inv P ops A L' σa σc' h ∧ nextNW P ops L' = none ∧ T P ops (f' + 1) L' K σc' h
  | 0, L, σc, hI, hT => hT.elim
  | f + 1, L, σc, hI, hT => by
    cases hn : nextNW P ops L with
    | none => exact ⟨f, L, σc, hI, hn, hT⟩
    | some i =>
      unfold T at hT
      simp only [hn] at hT
      have hf := List.find?_some hn
      simp only [Bool.and_eq_true] at hf
      cases ho : ops[i]? with
      | none => rw [ho] at hT; exact hT.elim
      | some o =>
        rw [ho] at hT
        obtain ⟨v, hI', hT'⟩ := hI.nwStep hd hf.1 hf.2 ho hT
        exact T_norm hd f _ _ hI' hT'

theorem fin_ {K : Kont} {f : Nat} (hI : Inv P ops A L σa σc h) (hd : Down ops) (hn : nextNW P ops L = none) (hT : T P ops (f + 1) L K σc h) (hr : Region.ready .any ops A = []) : K σa h := by
  -- nothing is read ahead and not yet met
  have hp : ∀ r, Nat.testBit L r = true → A.getD r false = true := by
    intro r
    induction r using Nat.strongRecOn with
    | _ r ih =>
      intro hL
      cases e : A.getD r false with
      | true => rfl
      | false =>
        exfalso
        obtain ⟨o, ho⟩ : ∃ o, ops[r]? = some o := ⟨ops[r]'(hI.bound r hL), Array.getElem?_eq_getElem (hI.bound r hL)⟩
        have : r ∈ Region.ready .any ops A := (ready_spec hI.sizeA).2 ⟨o, ho, e, fun ed he hb => ih ed.on (hd r o ho ed he hb) (hI.clL r o hL ho ed he hb)⟩
        rw [hr] at this
        cases this
  have hσ : σa = σc := funext fun t => hI.agr t fun r h1 h2 => by rw [hp r h1] at h2; cases h2
  have hf : (List.range ops.size).filter (rdy ops L) = [] := by
    rw [List.filter_eq_nil_iff]
    intro i _ hi
    obtain ⟨o, ho, hni, he⟩ := rdy_spec.1 hi
    have hAi : A.getD i false = false := by
      cases e : A.getD i false with
      | true => rw [hI.sub i e] at hni; cases hni
      | false => rfl
    have : i ∈ Region.ready .any ops A := (ready_spec hI.sizeA).2 ⟨o, ho, hAi, fun ed hed hb => hp _ (he ed hed hb)⟩
    rw [hr] at this
    cases this
  unfold T at hT
  simp only [hn, hf] at hT
  rw [hσ]
  exact hT

theorem allI_mem {f : Nat → Prop} : ∀ {is : List Nat}, allI is f → ∀ i ∈ is, f i
  | [], _, i, hi => by cases hi
  | [j], h, i, hi => by
    have : i = j := by simpa using hi
    subst this; exact h
  | j :: k :: is, h, i, hi => by
    rcases List.mem_cons.1 hi with rfl | hi
    · exact h.1
    · exact allI_mem h.2 i hi
theorem stabs_mem {σ : Nat → Value} {h : Heap} {p : Prop} : ∀ {rs : List Nat}, stabs P ops rs σ h p → (∀ r ∈ rs, stabOp P ops r σ h) ∧ p
  | [], hp => ⟨fun _ h => (by cases h), hp⟩
  | r :: rs, hp => ⟨fun i hi => by
      rcases List.mem_cons.1 hi with rfl | hi
      · exact hp.1
      · exact (stabs_mem hp.2).1 i hi, (stabs_mem hp.2).2⟩
theorem stab_val {r : Nat} {σ : Nat → Value} {h' : Heap} (hr : nw P ops r = true) (hs : stabOp P ops r σ h') {o : Oper} {d : Nat} (ho : ops[r]? = some o) (hd : o.dst = some d)
    (hw : wantS ops o σ = true) : Rd P o σ h' (σ d) := by
  obtain ⟨o', d', ho', _, hk, _, _⟩ := nw_spec hr
  rw [ho] at ho'; injection ho' with ho'; subst ho'
  have key : (opW P o σ h' fun v _ => v = σ d) → Rd P o σ h' (σ d) := fun hq => by
    obtain ⟨v, rfl, hv⟩ := nw_ans hk hq
    exact hv
  unfold stabOp at hs
  simp only [ho, hd] at hs
  unfold wantS at hw
  cases hg : o.guard with
  | none => rw [hg] at hs; exact key hs
  | some g =>
    obtain ⟨j, want⟩ := g
    rw [hg] at hs hw
    simp only at hs hw
    cases hdj : (ops[j]?).bind (·.dst) with
    | none => rw [hdj] at hw; cases hw
    | some dg =>
      rw [hdj] at hs hw
      simp only at hs hw
      split at hs
      · rename_i t ht
        rw [ht] at hw
        simp only [beq_iff_eq] at hw
        rw [if_pos hw] at hs
        exact key hs
      · rename_i hx
        split at hw
        · rename_i t ht; exact absurd ht (hx t)
        · cases hw

theorem get_set {A : Array Bool} {i j : Nat} (hi : i < A.size) : (A.setIfInBounds i true).getD j false = true ↔ A.getD j false = true ∨ j = i := by
  simp only [Array.getD_eq_getD_getElem?]
  by_cases e : i = j
  · subst e
    rw [Array.getElem?_setIfInBounds_self_of_lt hi]
    simp
  · rw [Array.getElem?_setIfInBounds_ne e]
    constructor
    · exact .inl
    · rintro (h | rfl)
      · exact h
      · exact absurd rfl e
theorem get_set_ff {A : Array Bool} {i j : Nat} (hi : i < A.size) (h : (A.setIfInBounds i true).getD j false = false) : A.getD j false = false ∧ j ≠ i := by
  constructor
  · cases e : A.getD j false with
    | false => rfl
    | true => rw [(get_set hi).2 (.inl e)] at h; cases h
  · rintro rfl
    rw [(get_set hi).2 (.inr rfl)] at h; cases h
theorem cl_set {A : Array Bool} {i : Nat} {o : Oper} (hi : i < A.size) (hc : Cl ops fun j => A.getD j false = true) (ho : ops[i]? = some o)
    (hr : ∀ e ∈ o.after.toList, Region.binds .any e = true → A.getD e.on false = true) : Cl ops fun j => (A.setIfInBounds i true).getD j false = true := by
  intro k o' hk ho' e he hb
  rw [get_set hi]
  rcases (get_set hi).1 hk with hk | rfl
  · exact .inl (hc k o' hk ho' e he hb)
  · rw [ho] at ho'; injection ho' with ho'; subst ho'
    exact .inl (hr e he hb)
/-- What an operation that may run now looks at, both frames have alike. -/
theorem Inv.looks {i : Nat} {o : Oper} (hd : Down ops) (hI : Inv P ops A L σa σc h) (ho : ops[i]? = some o) (hAi : A.getD i false = false)
    (hed : ∀ e ∈ o.after.toList, Region.binds .any e = true → A.getD e.on false = true) : ∀ t ∈ o.looksAt ops, σa t = σc t := by
  intro t ht
  refine hI.agr t fun r h1 h2 hr => ?_
  obtain ⟨hn, _⟩ := hI.pend r h1 h2
  obtain ⟨o', d, ho', hd', _, hself, hssa⟩ := nw_spec hn
  have hdt : d = t := by simpa [dstOf, ho', hd'] using hr
  subst hdt
  by_cases e : i = r
  · subst e
    rw [ho] at ho'; injection ho' with ho'; subst ho'
    exact hself ht
  · have := bef_rdy hd hI.clA ho hed (hssa i o ho e (.inl ht))
    rw [h2] at this; cases this
/-- Something read ahead is met. -/
theorem Inv.meet {i : Nat} {o : Oper} {d : Nat} (hI : Inv P ops A L σa σc h) (ho : ops[i]? = some o) (hod : o.dst = some d) (hL : Nat.testBit L i = true)
    (hed : ∀ e ∈ o.after.toList, Region.binds .any e = true → A.getD e.on false = true) : Inv P ops (A.setIfInBounds i true) L (up σa d (σc d)) σc h := by
  have hi : i < A.size := by rw [hI.sizeA]; exact hI.bound i hL
  refine ⟨by simp [hI.sizeA], fun j hj => ?_, cl_set hi hI.clA ho hed, hI.clL, hI.bound, fun r h1 h2 => hI.pend r h1 (get_set_ff hi h2).1, fun t ht => ?_⟩
  · rcases (get_set hi).1 hj with hj | rfl
    · exact hI.sub j hj
    · exact hL
  · by_cases e : t = d
    · subst e; exact up_eq
    · rw [up_ne e]
      refine hI.agr t fun r h1 h2 hr => ?_
      by_cases e2 : r = i
      · subst e2
        exact e (by simpa [dstOf, ho, hod] using hr.symm)
      · refine ht r h1 ?_ hr
        cases e3 : (A.setIfInBounds i true).getD r false with
        | false => rfl
        | true =>
          rcases (get_set hi).1 e3 with e4 | e4
          · rw [e4] at h2; cases h2
          · exact absurd e4 e2
/-- A writing operation runs. -/
theorem Inv.write {i : Nat} {o : Oper} {v : Value} {h' : Heap} (hchk : chk ops = true) (hI : Inv P ops A L σa σc h) (ho : ops[i]? = some o) (hL : Nat.testBit L i = false)
    (hed : ∀ e ∈ o.after.toList, Region.binds .any e = true → A.getD e.on false = true)
    (hval : ∀ r, Nat.testBit L r = true → nw P ops r = true → bef ops r i = false → Val P ops r σc h → Val P ops r (putS σc o.dst v) h') :
    Inv P ops (A.setIfInBounds i true) (L ||| 2 ^ i) (putS σa o.dst v) (putS σc o.dst v) h' := by
  have hi : i < A.size := by rw [hI.sizeA]; exact lt_of_get ho
  have hd := chk_down hchk
  refine ⟨by simp [hI.sizeA], fun j hj => ?_, cl_set hi hI.clA ho hed, cl_or hI.clL ho fun e he hb => hI.sub _ (hed e he hb), fun j hj => ?_, fun r h1 h2 => ?_, fun t ht => ?_⟩
  · rw [tb]
    rcases (get_set hi).1 hj with hj | hj
    · exact .inl (hI.sub j hj)
    · exact .inr hj
  · rcases (tb L i j).1 hj with h1 | rfl
    · exact hI.bound j h1
    · exact lt_of_get ho
  · obtain ⟨h3, h4⟩ := get_set_ff hi h2
    rcases (tb L i r).1 h1 with h1 | h1
    · obtain ⟨ha, hb⟩ := hI.pend r h1 h3
      refine ⟨ha, hval r h1 ha ?_ hb⟩
      cases e : bef ops r i with
      | false => rfl
      | true => have := bef_rdy hd hI.clA ho hed e; rw [h3] at this; cases this
    · exact absurd h1 h4
  · by_cases e : o.dst = some t
    · rw [e]; show up σa t v t = up σc t v t; rw [up_eq, up_eq]
    · rw [putS_ne e, putS_ne e]
      refine hI.agr t fun r h1 h2 hr => ht r ((tb L i r).2 (.inl h1)) ?_ hr
      cases e3 : (A.setIfInBounds i true).getD r false with
      | false => rfl
      | true =>
        rcases (get_set hi).1 e3 with e4 | e4
        · rw [e4] at h2; cases h2
        · rw [e4, hL] at h1; cases h1

def left (A : Array Bool) (n : Nat) : Nat := ((List.range n).filter fun i => !A.getD i false).length
theorem filter_lt {p q : Nat → Bool} {i : Nat} : ∀ (l : List Nat), (∀ x, q x = true → p x = true) → i ∈ l → p i = true → q i = false → (l.filter q).length < (l.filter p).length
  | [], _, hi, _, _ => by cases hi
  | x :: l, hs, hi, hp, hq => by
    have hle : ∀ l : List Nat, (l.filter q).length ≤ (l.filter p).length := by
      intro l
      induction l with
      | nil => simp
      | cons y l ih =>
        by_cases h1 : q y = true
        · rw [List.filter_cons_of_pos h1, List.filter_cons_of_pos (hs y h1)]; simpa using ih
        · rw [List.filter_cons_of_neg h1]
          by_cases h2 : p y = true
          · rw [List.filter_cons_of_pos h2]; simp only [List.length_cons]; omega
          · rw [List.filter_cons_of_neg h2]; exact ih
    rcases List.mem_cons.1 hi with rfl | hi
    · rw [List.filter_cons_of_neg (by simp [hq]), List.filter_cons_of_pos hp]
      have := hle l
      simp only [List.length_cons]; omega
    · have ih := filter_lt l hs hi hp hq
      by_cases h1 : q x = true
      · rw [List.filter_cons_of_pos h1, List.filter_cons_of_pos (hs x h1)]; simpa using ih
      · rw [List.filter_cons_of_neg h1]
        by_cases h2 : p x = true
        · rw [List.filter_cons_of_pos h2]; simp only [List.length_cons]; omega
        · rw [List.filter_cons_of_neg h2]; exact ih
theorem left_set {i n : Nat} (hi : i < n) (hs : A.size = n) (h : A.getD i false = false) : left (A.setIfInBounds i true) n < left A n := by
  refine filter_lt (i := i) _ (fun x hx => ?_) (by simpa using hi) (by simp [h]) ?_
  · simp only [Bool.not_eq_true'] at hx ⊢
    exact (get_set_ff (by omega) hx).1
  · have := (get_set (A := A) (i := i) (j := i) (by omega)).2 (.inr rfl)
    simp [this]
end

theorem T_any {n : Nat} {w₀ : World} {Q : Exit → Act → World → Prop} {K : Kont} {σ₀ : Nat → Value} (hchk : chk ops = true) (hn : ∀ i d, dstOf ops i = some d → d < n)
    (hQ : ∀ σ' a' w', Fr n a' σ' → Env w₀ w' → K σ' w'.heap → Agr (fun t => ∃ i, dstOf ops i = some t) σ₀ σ' → Q .normal a' w') :
    ∀ (fuel : Nat) (A : Array Bool) (L : Nat) (σa σc : Nat → Value) (h : Heap) (a : Act) (w : World) (f : Nat), Inv P ops A L σa σc h → left A ops.size ≤ fuel → T P ops f L K σc h →
      Fr n a σa → w.heap = h → Env w₀ w → Agr (fun t => ∃ i, dstOf ops i = some t) σ₀ σa → wpAny P .any ops Q fuel A a w := by
  have hd := chk_down hchk
  intro fuel
  induction fuel with
  | zero =>
    intro A L σa σc h a w f hI hl hT hf hw hE hag
    have hr : Region.ready .any ops A = [] := by
      rw [List.eq_nil_iff_forall_not_mem]
      intro i hi
      obtain ⟨o, ho, hAi, _⟩ := (ready_spec hI.sizeA).1 hi
      have : i ∈ (List.range ops.size).filter fun i => !A.getD i false := by
        rw [List.mem_filter]; exact ⟨by simpa using lt_of_get ho, by simp [hAi]⟩
      unfold left at hl
      rw [List.eq_nil_of_length_eq_zero (Nat.le_zero.1 hl)] at this
      cases this
    obtain ⟨f', L', σc', hI', hn', hT'⟩ := T_norm hd f L σc hI hT
    exact ⟨hr, hQ σa a w hf hE (by rw [hw]; exact fin_ hI' hd hn' hT' hr) hag⟩
  | succ fuel ih =>
    intro A L σa σc h a w f hI hl hT hf hw hE hag
    obtain ⟨f', L', σc', hI', hn', hT'⟩ := T_norm hd f L σc hI hT
    refine ⟨fun hr => hQ σa a w hf hE (by rw [hw]; exact fin_ hI' hd hn' hT' hr) hag, fun i hi => ?_⟩
    obtain ⟨o, ho, hAi, hed⟩ := (ready_spec hI'.sizeA).1 hi
    have hlk := hI'.looks hd ho hAi hed
    have hil := lt_of_get ho
    have hl' := left_set hil hI'.sizeA hAi
    have hag' : ∀ v, Agr (fun t => ∃ i, dstOf ops i = some t) σ₀ (putS σa o.dst v) := fun v t ht => by
      rw [putS_ne fun e => ht ⟨i, by simp [dstOf, ho, e]⟩]; exact hag t ht
    have hfp : ∀ v, Fr n (a.put o.dst v) (putS σa o.dst v) := fun v => hf.put o.dst (fun d e => hn i d (by simp [dstOf, ho, e])) v
    unfold wpOp
    simp only [ho]
    rw [wanted_eq hf, want_looks hlk]
    cases hLi : Nat.testBit L' i with
    | true =>
      obtain ⟨hnw, hv⟩ := hI'.pend i hLi hAi
      obtain ⟨o', d, ho', hod, hk, _, _⟩ := nw_spec hnw
      rw [ho] at ho'; injection ho' with ho'; subst ho'
      obtain ⟨hv1, hv2⟩ := hv o d ho hod
      have next : ∀ w', Env w w' → w'.heap = h → wpAny P .any ops Q fuel (A.setIfInBounds i true) (a.put o.dst (σc' d)) w' := fun w' hE' hw' => by
        have hm := hI'.meet ho hod hLi hed
        have h1 := hfp (σc' d)
        have h2 := hag' (σc' d)
        rw [hod] at h1 h2 ⊢
        exact ih _ _ _ _ _ _ _ (f' + 1) hm (by omega) hT' h1 hw' (hE.trans hE') h2
      cases hwt : wantS ops o σc' with
      | true =>
        rw [if_pos rfl]
        refine .inl ?_
        obtain ⟨w', hrun, hE', hw'⟩ := (hv1 hwt).1 w hw
        unfold Oper.wp
        rw [hf.eval, exec_looks (nwK_sel hk) hlk, hrun]
        exact next w' hE' hw'
      | false =>
        rw [if_neg (by simp)]
        have := next w (Env.refl w) hw
        rwa [hv2 hwt] at this
    | false =>
      have hrd : rdy ops L' i = true := rdy_spec.2 ⟨o, ho, hLi, fun e he hb => hI'.sub _ (hed e he hb)⟩
      have hmem : i ∈ (List.range ops.size).filter (rdy ops L') := List.mem_filter.2 ⟨by simpa using hil, hrd⟩
      have hall : runG P ops o σc' h (fun σ' h' => stabs P ops (again P ops L' i) σ' h' (T P ops f' (L' ||| 2 ^ i) K σ' h')) (T P ops f' (L' ||| 2 ^ i) K) := by
        have h0 := hT'
        unfold T at h0
        simp only [hn'] at h0
        cases hfl : (List.range ops.size).filter (rdy ops L') with
        | nil => rw [hfl] at hmem; cases hmem
        | cons x xs =>
          rw [hfl] at h0
          have := allI_mem h0 i (by rw [← hfl]; exact hmem)
          simpa only [ho] using this
      -- a slot that is written now is none that was read ahead
      have hno : ∀ r, Nat.testBit L' r = true → nw P ops r = true → bef ops r i = false → ∀ d, o.dst = some d → ∀ o', ops[r]? = some o' → ¬ (d ∈ o'.looksAt ops ∨ o'.dst = some d) := by
        intro r hr _ hb d hod o' ho' hm
        have hri : r ≠ i := fun e => by rw [e, hLi] at hr; cases hr
        rcases chk_slots hchk ho hod ho' hri hm with h1 | h1
        · have := bef_in hd hI'.clL i r h1 hr
          rw [hLi] at this; cases this
        · rw [hb] at h1; cases h1
      have hkeep : ∀ v r, Nat.testBit L' r = true → nw P ops r = true → bef ops r i = false → Val P ops r σc' h → Val P ops r (putS σc' o.dst v) h := by
        intro v r h1 h2 h3 h4
        cases hod : o.dst with
        | none => exact h4
        | some d => exact h4.put h2 (hno r h1 h2 h3 d hod)
      rcases runG_cases hall with ⟨hwt, hq⟩ | ⟨hwt, hq⟩
      · rw [hwt, if_pos rfl]
        refine .inl ?_
        unfold Oper.wp
        rw [hf.eval, exec_looks (opW_sel hq) hlk]
        refine upon_done (opW_done hq w hw) fun v w' hE' hK => ?_
        obtain ⟨hst, hT2⟩ := stabs_mem hK
        refine ih _ _ _ _ _ _ _ f' (hI'.write (v := v) hchk ho hLi hed fun r h1 h2 h3 h4 => ?_) (by omega) hT2 (hfp v) rfl (hE.trans hE') (hag' v)
        have h5 := hkeep v r h1 h2 h3 h4
        intro o2 d2 ho2 hd2
        obtain ⟨h6, h7⟩ := h5 o2 d2 ho2 hd2
        refine ⟨fun hw2 => ?_, h7⟩
        cases hns : ns P o2 with
        | false => exact ⟨(h6 hw2).2 hns w'.heap, (h6 hw2).2⟩
        | true =>
          refine stab_val h2 (hst r ?_) ho2 hd2 hw2
          unfold again
          rw [List.mem_filter]
          refine ⟨by simpa using hI'.bound r h1, ?_⟩
          simp [h1, h2, h3, nsI, ho2, hns]
      · rw [hwt, if_neg (by simp)]
        exact ih _ _ _ _ _ _ _ f' (hI'.write (v := undef) hchk ho hLi hed fun r h1 h2 h3 h4 => hkeep undef r h1 h2 h3 h4) (by omega) hq (hfp undef) hw hE (hag' undef)

theorem T_sound {n : Nat} {w₀ : World} {Q : Exit → Act → World → Prop} {K : Kont} {σ : Nat → Value} {h : Heap} {a : Act} {w : World} {id : Nat} {f : Nat} (hm : P.follows .mixedOrders = true) (hchk : chk ops = true)
    (hn : ∀ i d, dstOf ops i = some d → d < n) (hT : T P ops f 0 K σ h) (hf : Fr n a σ) (hw : w.heap = h) (hE : Env w₀ w)
    (hQ : ∀ σ' a' w', Fr n a' σ' → Env w₀ w' → K σ' w'.heap → Agr (fun t => ∃ i, dstOf ops i = some t) σ σ' → Q .normal a' w') : (Code.region id ops true).wp P Q a w := by
  refine wp_region_any hm ?_
  have h0 : ∀ i, (Array.replicate ops.size false).getD i false = false := fun i => by
    rw [Array.getD_eq_getD_getElem?, Array.getElem?_replicate]
    split <;> rfl
  refine T_any hchk hn hQ ops.size _ 0 σ σ h a _ f ⟨by simp, fun i hi => ?_, fun k o hk => ?_, fun k o hk => ?_, fun i hi => ?_, fun r hr => ?_, fun _ _ => rfl⟩ ?_ hT hf hw ⟨hE.os, hE.tape, hE.output⟩ (fun _ _ => rfl)
  · rw [h0] at hi; cases hi
  · have hk' : (Array.replicate ops.size false).getD k false = true := hk
    rw [h0] at hk'; cases hk'
  · simp at hk
  · simp at hi
  · simp at hr
  · unfold left
    exact Nat.le_trans (List.length_filter_le _ _) (by simp)
end
end Go.Proofs.Ytegbnmaglkpkjaa
