/-
  Several of the proof's texts in one: Pd, Pe, Pf, SC, SE, Vg.
-/
import Derived.Test.YtniojdaddolnfaaGreatMb
import Derived.Test.YtniojdaddolnfaaGreatMa
import Derived.Test.YtniojdaddolnfaaGreatProg
set_option linter.unusedVariables false
set_option linter.unusedSimpArgs false

/-
  Layer 10 (group), plain: messages that bring entries; a node's doings keep what always holds.
-/
namespace Go.Proofs.YtniojdaddolnfaaGreat

/-! ## Messages that bring entries -/
def fallsR : Int → List RE → Bool
  | _, [] => false
  | t, e :: l => if e.term < t then true else fallsR e.term l
def knownR : List RE → List RE → Nat
  | x :: xs, y :: ys => if x.term = y.term then knownR xs ys + 1 else 0
  | _, _ => 0
/-- A log behind Put, the first index that changed, and the error. -/
def putR (es : List RE) (index term : Int) (ys : List RE) : List RE × Int × Int :=
  if (termAt es index).2 = false then (es, 0, 6)
  else if (termAt es index).1 ≠ term then (es, 0, 8)
  else if fallsR term ys then (es, 0, 5)
  else if knownR (es.drop index.toNat) ys = ys.length then (es, 0, 0)
  else if index + ys.length > 1024 then (es, 0, 7)
  else (es.take (index.toNat + knownR (es.drop index.toNat) ys) ++ ys.drop (knownR (es.drop index.toNat) ys), index + knownR (es.drop index.toNat) ys + 1, 0)
def rApp0 (X : RN) (m : RM) : RN := { rFollow X X.term m.from_ with since := 0 }
def rPut (X : RN) (m : RM) : RN :=
  if (putR X.log m.index m.logTerm m.ents).2.1 > 0 then rDirty { X with log := (putR X.log m.index m.logTerm m.ents).1 } (putR X.log m.index m.logTerm m.ents).2.1 else { X with log := (putR X.log m.index m.logTerm m.ents).1 }
def rAppend (X : RN) (m : RM) : RN :=
  if X.role = 3 then X
  else if m.index < X.commit then rTold (rApp0 X m) m.from_ true X.commit
  else if (putR X.log m.index m.logTerm m.ents).2.2 ≠ 0 then rTold (rApp0 X m) m.from_ false (mx (mn (X.log.length : Int) (m.index - 1)) 0)
  else rTold { rPut (rApp0 X m) m with commit := mx X.commit (mn m.commit (m.index + m.ents.length)) } m.from_ true (m.index + m.ents.length)
/-- A message. -/
def rStepF (X : RN) (m : RM) : RN :=
  if ¬ countsB X m then X
  else if m.kind = 1 then rAskPre X m else if m.kind = 2 then rTellPre X m
  else if m.term < (rNewer X m).term then (if m.kind = 5 then rTold (rNewer X m) m.from_ false 0 else rNewer X m)
  else if m.kind = 3 then rAskVote (rNewer X m) m else if m.kind = 4 then rTellVote (rNewer X m) m else if m.kind = 5 then rAppend (rNewer X m) m else rHears (rNewer X m) m
theorem knownR_le : ∀ (xs ys : List RE), knownR xs ys ≤ xs.length ∧ knownR xs ys ≤ ys.length
  | [], ys => by rw [show knownR [] ys = 0 from by cases ys <;> rfl]; exact ⟨Nat.zero_le _, Nat.zero_le _⟩
  | x :: xs, [] => ⟨Nat.zero_le _, Nat.zero_le _⟩
  | x :: xs, y :: ys => by
    have ih := knownR_le xs ys
    unfold knownR
    split <;> simp only [List.length_cons] <;> omega
theorem knownR_eq : ∀ (xs ys : List RE) (q : Nat), q < knownR xs ys → ∃ a b, xs[q]? = some a ∧ ys[q]? = some b ∧ a.term = b.term
  | [], ys, q, h => by rw [show knownR [] ys = 0 from by cases ys <;> rfl] at h; omega
  | x :: xs, [], q, h => by have : knownR (x :: xs) [] = 0 := rfl; omega
  | x :: xs, y :: ys, q, h => by
    unfold knownR at h
    split at h
    · rename_i e
      cases q with
      | zero => exact ⟨x, y, rfl, rfl, e⟩
      | succ q => exact knownR_eq xs ys q (by omega)
    · omega
theorem knownR_ne : ∀ (xs ys : List RE), knownR xs ys < xs.length → knownR xs ys < ys.length → ∃ a b, xs[knownR xs ys]? = some a ∧ ys[knownR xs ys]? = some b ∧ a.term ≠ b.term
  | [], ys, h, _ => by simp at h
  | x :: xs, [], _, h => by simp at h
  | x :: xs, y :: ys, h1, h2 => by
    unfold knownR at h1 h2 ⊢
    split
    · rename_i e
      rw [if_pos e] at h1 h2
      simp only [List.length_cons] at h1 h2
      have := knownR_ne xs ys (by omega) (by omega)
      simpa using this
    · rename_i e
      exact ⟨x, y, rfl, rfl, e⟩
/-! ## A node's doings -/
structure SI (k : Nat) (g : GH) (i : Nat) (X : RN) : Prop where
  ni : NI k g i X
  out : ∀ m ∈ X.out, MI k g m
/-- What a doing leaves: more is known by this node alone. -/
def Does (k : Nat) (g : GH) (i : Nat) (Y : RN) : Prop := ∃ g', GBy i g g' ∧ GI k g' ∧ SI k g' i Y
section
variable {k : Nat} {g : GH} {i : Nat} {X Y : RN} {m : RM}
theorem Does.same (I : GI k g) (h : SI k g i Y) : Does k g i Y := ⟨g, GBy.refl i g, I, h⟩
theorem Does.bind {Z : RN} (h : Does k g i Y) (hz : ∀ g', GI k g' → SI k g' i Y → Does k g' i Z) : Does k g i Z := by
  obtain ⟨g1, a, b, c⟩ := h
  obtain ⟨g2, d, e, f⟩ := hz g1 b c
  exact ⟨g2, a.trans d, e, f⟩
theorem SI.like (h : SI k g i X) (h1 : Y.term = X.term) (h2 : Y.vote = X.vote) (h3 : Y.log = X.log) (h4 : Y.id = X.id) (h5 : Y.n = X.n) (h6 : Y.commit = X.commit) (h7 : Y.role = X.role ∨ (Y.role ≠ 2 ∧ Y.role ≠ 3)) (h8 : Y.votes = X.votes) (h9 : Y.matc = X.matc) (h10 : Y.next = X.next) (h11 : Y.out = X.out) : SI k g i Y :=
  ⟨h.ni.like h1 h2 h3 h4 h5 h6 h7 h8 h9 h10, by rw [h11]; exact h.out⟩
theorem SI.withOut (h : SI k g i X) (h1 : Y.term = X.term) (h2 : Y.vote = X.vote) (h3 : Y.log = X.log) (h4 : Y.id = X.id) (h5 : Y.n = X.n) (h6 : Y.commit = X.commit) (h7 : Y.role = X.role) (h8 : Y.votes = X.votes) (h9 : Y.matc = X.matc) (h10 : Y.next = X.next) {ms : List RM} (h11 : Y.out = X.out ++ ms) (hm : ∀ m ∈ ms, MI k g m) : SI k g i Y :=
  ⟨h.ni.like h1 h2 h3 h4 h5 h6 (.inl h7) h8 h9 h10, by
    rw [h11]
    intro m hmm
    rcases List.mem_append.1 hmm with hmm | hmm
    · exact h.out m hmm
    · exact hm m hmm⟩
theorem SI.send (h : SI k g i X) {to : Int} {m : RM} (hm : MI k g { m with from_ := X.id, to := to }) : SI k g i (rSend X to m) :=
  h.withOut rfl rfl rfl rfl rfl rfl rfl rfl rfl rfl (ms := [{ m with from_ := X.id, to := to }]) rfl fun x hx => by rw [List.mem_singleton.1 hx]; exact hm
theorem SI.all (h : SI k g i X) {m : RM} (hm : ∀ t : Nat, MI k g { m with from_ := X.id, to := (t : Int) }) : SI k g i (rAll X m) :=
  h.withOut rfl rfl rfl rfl rfl rfl rfl rfl rfl rfl (ms := (others X X.n.toNat).map fun (t : Nat) => { m with from_ := X.id, to := (t : Int) }) rfl fun x hx => by
    obtain ⟨t, _, rfl⟩ := List.mem_map.1 hx
    exact hm t
theorem DI.up {T T' vt vt' : Int} {l : List RE} (h : DI g i T vt l) (hT : T < T') : DI g i T' vt' l :=
  ⟨h.lm, h.mono, h.ter.up (by omega), h.kp.up (by omega), fun t ht => h.futV t (by omega), fun t ht => h.futC t (by omega), fun t ht => h.futA t (by omega), fun t ht => h.futL t (by omega), .inl (h.futV T' hT), by have := h.t0; omega⟩
theorem SI.follow (h : SI k g i X) {t l : Int} : SI k g i (rFollow X t l) := by
  unfold rFollow
  split
  · rename_i ht
    refine ⟨⟨h.ni.d.up ht, h.ni.d.futV t ht, h.ni.id, h.ni.n, h.ni.ik, h.ni.k7, Int.le_refl _, h.ni.vb, h.ni.c0, h.ni.c1, ?_, (fun e => absurd e (by decide : ¬ (0 : Int) = 2)), (fun e => absurd e (by decide : ¬ (0 : Int) = 3))⟩, h.out⟩
    exact h.ni.com.sub (List.prefix_refl _) (Int.le_of_lt ht)
  · exact h.like rfl rfl rfl rfl rfl rfl (.inr ⟨(by decide : ¬ (0 : Int) = 2), (by decide : ¬ (0 : Int) = 3)⟩) rfl rfl rfl rfl
theorem mi_none {m : RM} (h : m.kind = 1 ∨ m.kind = 2 ∨ (m.kind = 4 ∧ m.yes = false) ∨ (m.kind = 6 ∧ m.yes = false)) : MI k g m :=
  ⟨fun e => by omega, fun e y => by rcases h with h | h | h | h <;> first | omega | (rw [h.2] at y; cases y), fun e => by omega, fun e y => by rcases h with h | h | h | h <;> first | omega | (rw [h.2] at y; cases y)⟩
/-! ### Appends that are sent -/
theorem fromL_pre (es : List RE) {a : Int} (h : 0 ≤ a) (n : Int) : fromL es (a + 1) n <+: es.drop a.toNat := by
  unfold fromL
  have : (if 1 > a + 1 then 1 else a + 1).toNat - 1 = a.toNat := by split <;> omega
  rw [this]
  exact take_pre _ _
theorem Lead.msg (h : NI k g i X) (hl : Lead k g i X) {t : Nat} (ht : t < k) (hti : t ≠ i) : MI k g (toMsg X t) := by
  have hn := hl.nx t ht hti
  refine ⟨fun e => absurd e (by decide : ¬ (5 : Int) = 3), fun e => absurd e (by decide : ¬ (5 : Int) = 4), fun _ => ?_, fun e => absurd e (by decide : ¬ (5 : Int) = 6)⟩
  show g.ll X.term ≠ [] ∧ g.ld X.term = X.id ∧ 0 ≤ X.next t - 1 ∧ X.next t - 1 ≤ (g.ll X.term).length ∧ (termAt X.log (X.next t - 1)).1 = (termAt (g.ll X.term) (X.next t - 1)).1 ∧ fromL X.log (X.next t - 1 + 1) 8 <+: (g.ll X.term).drop (X.next t - 1).toNat ∧ X.commit ≤ (g.ll X.term).length ∧ Cm k g X.term ((g.ll X.term).take X.commit.toNat)
  rw [hl.ll]
  exact ⟨hl.ne, by rw [hl.ld, h.id], by omega, by omega, rfl, fromL_pre _ (by omega) _, h.c1, h.com⟩
theorem mem_others {n : Nat} {t : Nat} (h : t ∈ others X n) : t < n ∧ (t : Int) ≠ X.id := by
  unfold others at h
  rw [List.mem_filter, decide_eq_true_iff] at h
  exact ⟨List.mem_range.1 h.1, h.2⟩
theorem SI.toAll (h : SI k g i X) (hr : X.role = 3) : SI k g i (rToAll X) :=
  h.withOut rfl rfl rfl rfl rfl rfl rfl rfl rfl rfl (ms := (others X X.n.toNat).map (toMsg X)) rfl fun x hx => by
    obtain ⟨t, ht, rfl⟩ := List.mem_map.1 hx
    have hm := mem_others ht
    rw [h.ni.id] at hm
    exact (h.ni.lead hr).msg h.ni (by have := h.ni.n; omega) (by omega)
theorem SI.to (h : SI k g i X) (hr : X.role = 3) {t : Nat} (ht : t < k) (hti : t ≠ i) : SI k g i (rTo X t) :=
  h.withOut rfl rfl rfl rfl rfl rfl rfl rfl rfl rfl (ms := [toMsg X t]) rfl fun x hx => by
    rw [List.mem_singleton.1 hx]
    exact (h.ni.lead hr).msg h.ni ht hti
theorem agreeAt_some {X : RN} : ∀ {j c : Nat}, agreeAt X j = some c → 1 ≤ c ∧ c ≤ j ∧ X.commit < c ∧ (termAt X.log (c : Int)).1 = X.term ∧ 2 * (cntG X (c : Int) : Int) > X.n
  | 0, c, h => by cases h
  | j + 1, c, h => by
    have e : agreeAt X (j + 1) = if ((j + 1 : Nat) : Int) ≤ X.commit then none else if (termAt X.log ((j + 1 : Nat) : Int)).1 ≠ X.term then none else if 2 * (cntG X ((j + 1 : Nat) : Int) : Int) > X.n then some (j + 1) else agreeAt X j := rfl
    rw [e] at h
    split at h
    · cases h
    · rename_i h1
      split at h
      · cases h
      · rename_i h2
        split at h
        · rename_i h3
          injection h with h
          subst h
          exact ⟨by omega, Nat.le_refl _, by omega, Decidable.not_not.1 h2, h3⟩
        · obtain ⟨a, b, c, d, e⟩ := agreeAt_some h
          exact ⟨a, by omega, c, d, e⟩
theorem SI.agree (h : SI k g i X) (hr : X.role = 3) : SI k g i (rAgree X) := by
  unfold rAgree
  split
  · exact h
  · rename_i c hc
    obtain ⟨h1, h2, h3, h4, h5⟩ := agreeAt_some hc
    have L := h.ni.lead hr
    have hcom : Com k g X.term c := by
      refine ⟨⟨h1, ?_⟩, (maj_cnt h5 h.ni.n).mono fun v hv hq => ?_⟩
      · rw [L.ll, List.getElem?_eq_getElem (by omega)]
        refine ⟨_, rfl, ?_⟩
        rw [← h4]
        unfold termAt
        rw [if_neg (by omega), if_neg (by omega), Int.toNat_natCast, List.getElem?_eq_getElem (by omega)]
        rfl
      · by_cases e : v = i
        · subst e; have := L.me; omega
        · rcases hq with hq | hq
          · rw [h.ni.id] at hq; omega
          · have := L.mt v hv e; omega
    refine SI.toAll (X := { X with commit := (c : Int) }) ⟨⟨h.ni.d, h.ni.v, h.ni.id, h.ni.n, h.ni.ik, h.ni.k7, h.ni.v0, h.ni.vb, by show (0 : Int) ≤ c; omega, by show (c : Int) ≤ X.log.length; omega, ?_, fun e => absurd (hr.symm.trans e) (by decide), fun _ => ⟨L.ll, L.ne, L.ld, L.mt, L.me, L.nx⟩⟩, h.out⟩ hr
    refine .inr ⟨X.term, c, Int.le_refl _, hcom, ?_⟩
    rw [L.ll]
    exact List.prefix_refl _
/-! ### To lead, to stand -/
theorem rAgree_keeps (X : RN) : (rAgree X).term = X.term ∧ (rAgree X).role = X.role ∧ (rAgree X).log = X.log ∧ (rAgree X).vote = X.vote ∧ (rAgree X).hard = X.hard ∧ (rAgree X).from_ = X.from_ ∧ (rAgree X).next = X.next ∧ (rAgree X).matc = X.matc := by
  unfold rAgree
  split <;> exact ⟨rfl, rfl, rfl, rfl, rfl, rfl, rfl, rfl⟩
theorem Kp.ack {T : Int} {l : List RE} {n : Nat} (h : Kp g i T l) (hn : (g.ll T).take n <+: l) (hl : n ≤ (g.ll T).length) : Kp (g.setA i T n) i T l := fun t j hj ho => by
  have ho : Ow g t j := ho
  have hj : j ≤ if i = i ∧ t = T then max (g.ack i t) n else g.ack i t := hj
  have old : j ≤ g.ack i t → (g.ll t).take j <+: l ∨ ∃ u, u ≤ T ∧ Bd (g.setA i T n) t j u := fun h1 => h t j h1 ho
  by_cases e : t = T
  · subst e
    rw [if_pos ⟨rfl, rfl⟩] at hj
    by_cases h1 : j ≤ g.ack i t
    · exact old h1
    · exact .inl ((pre_take2 (by omega)).trans hn)
  · rw [if_neg fun x => e x.2] at hj
    exact old hj
theorem lastT_ter {l : List RE} {T : Int} (h : Ter l T) (h0 : 0 ≤ T) : lastT l ≤ T := by
  rcases Nat.eq_zero_or_pos l.length with e | e
  · rw [List.eq_nil_of_length_eq_zero e]; exact h0
  · rw [lastT_last e]; exact (h _ (List.getElem_mem _)).2
/-- The entry that a leader adds: who leads already, or begins to. -/
theorem add_core (I : GI k g) {l : List RE} {e : RE} (I' : GI k (g.setL i X.term (l ++ [e]))) (h : NI k g i X) (hll : g.ll X.term <+: l ++ [e]) (hd : g.ll X.term ≠ [] → g.ld X.term = i) (hX : X.log = l) (he : e.term = X.term) (h1 : 1 ≤ X.term) :
    GBy i g ((g.setL i X.term (l ++ [e])).setA i X.term (l.length + 1)) ∧ GI k ((g.setL i X.term (l ++ [e])).setA i X.term (l.length + 1)) ∧ DI ((g.setL i X.term (l ++ [e])).setA i X.term (l.length + 1)) i X.term X.vote (l ++ [e]) := by
  have G1 := setL_by hll hd
  have hf : ∀ u, X.term < u → (g.setL i X.term (l ++ [e])).V i u = -1 := fun u hu => h.d.futV u hu
  have hlen : l.length + 1 ≤ ((g.setL i X.term (l ++ [e])).ll X.term).length := by rw [setL_ll, List.length_append, List.length_singleton]; exact Nat.le_refl _
  have G2 := setA_by (n := l.length + 1) hf
  refine ⟨G1.trans G2, setA_gi I' hf hlen, ?_⟩
  have d := h.d
  rw [hX] at d
  refine ⟨(setL_lm I d.lm hll hd he).grow G2.toGLe, mono_snoc d.mono d.ter he, ter_snoc d.ter he h1, ?_, d.futV, d.futC, fun t ht => ?_, fun t ht hne => ?_, d.vot, d.t0⟩
  · refine Kp.ack (((d.kp.grow I G1.toGLe fun _ => rfl)).more (List.prefix_append _ _)) ?_ hlen
    rw [setL_ll]
    exact take_pre _ _
  · show (if i = i ∧ t = X.term then _ else g.ack i t) = 0
    rw [if_neg (by omega)]
    exact d.futA t ht
  · have hne : (if t = X.term then l ++ [e] else g.ll t) ≠ [] := hne
    show (if t = X.term then (i : Int) else g.ld t) ≠ i
    rw [if_neg (by omega)] at hne ⊢
    exact d.futL t ht hne
theorem SI.grow {g' : GH} (I : GI k g) (G : GBy i g g') (hn : NI k g' i Y) (h : SI k g i X) (ho : Y.out = X.out) : SI k g' i Y := ⟨hn, by rw [ho]; exact fun m hm => (h.out m hm).grow I G.toGLe⟩
theorem does_add (I : GI k g) (h : SI k g i X) (hr : X.role = 3) {data : ByteArray} : Does k g i (rAdd X data).1 := by
  unfold rAdd
  have L := h.ni.lead hr
  split
  · exact .same I h
  split
  · exact .same I h
  · have h1 := (I.L X.term (by rw [L.ll]; exact L.ne)).t1
    have I1 : GI k (g.setL i X.term (X.log ++ [⟨X.term, data⟩])) := setL_add I L.ll L.ne L.ld rfl
    obtain ⟨G, I2, d⟩ := add_core (e := ⟨X.term, data⟩) I I1 h.ni (by rw [L.ll]; exact List.prefix_append _ _) (fun _ => L.ld) rfl rfl h1
    refine ⟨_, G, I2, ?_⟩
    generalize hg : (g.setL i X.term (X.log ++ [⟨X.term, data⟩])).setA i X.term (X.log.length + 1) = g' at G I2 d ⊢
    have hll : g'.ll X.term = X.log ++ [⟨X.term, data⟩] := by rw [← hg]; exact setL_ll g i X.term _
    have hld : g'.ld X.term = i := by rw [← hg]; exact setL_ld g i X.term (X.log ++ [⟨X.term, data⟩])
    have hack : X.log.length + 1 ≤ g'.ack i X.term := by
      rw [← hg]
      show _ ≤ if i = i ∧ X.term = X.term then max _ (X.log.length + 1) else _
      rw [if_pos ⟨rfl, rfl⟩]; omega
    have hV : g'.V i X.term = X.vote := by rw [← hg]; exact h.ni.v
    refine SI.agree (SI.toAll ?_ hr) hr
    refine SI.like (X := { X with log := X.log ++ [⟨X.term, data⟩] }) ?_ rfl rfl rfl rfl rfl rfl (.inl rfl) rfl rfl rfl rfl
    refine SI.grow I G ⟨d, hV, h.ni.id, h.ni.n, h.ni.ik, h.ni.k7, h.ni.v0, h.ni.vb, h.ni.c0, ?_, ?_, fun e => absurd (hr.symm.trans e) (by decide), fun _ => ⟨hll, by simp, hld, fun v hv hvi => ?_, by show (X.log ++ [_]).length ≤ _; rw [List.length_append]; exact hack, fun v hv hvi => ?_⟩⟩ h rfl
    · show X.commit ≤ (X.log ++ [_]).length
      have := h.ni.c1
      rw [List.length_append]; omega
    · show Cm k g' X.term ((X.log ++ [_]).take X.commit.toNat)
      rw [List.take_append_of_le_length (by have := h.ni.c1; omega)]
      exact h.ni.com.grow G.toGLe
    · have := L.mt v hv hvi
      have := G.ack v X.term
      show 0 ≤ X.matc v ∧ X.matc v ≤ g'.ack v X.term
      omega
    · have := L.nx v hv hvi
      show 1 ≤ X.next v ∧ X.next v ≤ (X.log ++ [_]).length + 1
      rw [List.length_append]; omega
/-- A candidate with a majority. -/
theorem Cand.none (I : GI k g) (h : NI k g i X) (c : Cand k g i X) {v : Nat} (hm : mostB X v) (hv : v < 128) (hq : ∀ t, v.testBit t = true → t < k ∧ g.V t X.term = i ∧ (g.ll X.term = [] → Rec g X.term i t)) : g.ll X.term = [] ∧ Maj k fun v => g.V v X.term = i ∧ Rec g X.term i v := by
  have q1 : Maj k fun v => g.V v X.term = i := maj_bits hm h.n h.k7 hv fun t ht => ⟨(hq t ht).1, (hq t ht).2.1⟩
  have e : g.ll X.term = [] := Decidable.byContradiction fun hne => by
    obtain ⟨w, _, h1, h2⟩ := q1.meet (I.L X.term hne).maj
    exact c.no hne (by rw [← h2.1]; exact h1)
  exact ⟨e, maj_bits hm h.n h.k7 hv fun t ht => ⟨(hq t ht).1, (hq t ht).2.1, (hq t ht).2.2 e⟩⟩
theorem does_leads (I : GI k g) (h : SI k g i X) (hr : X.role = 2) {v : Nat} (hm : mostB X v) (hv : v < 128) (hq : ∀ t, v.testBit t = true → t < k ∧ g.V t X.term = i ∧ (g.ll X.term = [] → Rec g X.term i t)) : Does k g i (rLeads X) := by
  have c := h.ni.cand hr
  obtain ⟨h0, hmaj⟩ := c.none I h.ni hm hv hq
  have hter := lastT_ter h.ni.d.ter h.ni.d.t0
  unfold rLeads
  have ea : rAdd (rLead0 X) ⟨#[]⟩ = if X.log.length ≥ 1024 then (rLead0 X, 7) else (rAgree (rToAll (rDirty { rLead0 X with log := X.log ++ [⟨X.term, ⟨#[]⟩⟩] } ((X.log.length : Int) + 1))), 0) := by
    unfold rAdd
    rw [if_neg (show ¬ (rLead0 X).term < lastT (rLead0 X).log from by show ¬ X.term < lastT X.log; omega)]
    rfl
  rw [ea]
  by_cases hl : X.log.length ≥ 1024
  · rw [if_pos hl, if_pos (show (7 : Int) ≠ 0 by decide)]
    refine .same I ?_
    show SI k g i (rFollow (rLead0 X) X.term (-1))
    unfold rFollow
    rw [if_neg (by show ¬ X.term > X.term; omega)]
    refine ⟨⟨h.ni.d, h.ni.v, h.ni.id, h.ni.n, h.ni.ik, h.ni.k7, h.ni.v0, h.ni.vb, h.ni.c0, h.ni.c1, h.ni.com, (fun e => absurd e (by decide : ¬ (0 : Int) = 2)), (fun e => absurd e (by decide : ¬ (0 : Int) = 3))⟩, h.out⟩
  · rw [if_neg hl, if_neg (show ¬ (0 : Int) ≠ 0 by decide)]
    have I1 : GI k (g.setL i X.term (X.log ++ [⟨X.term, ⟨#[]⟩⟩])) := setL_new I h0 h.ni.ik c.cl h.ni.d.lm h.ni.d.mono c.ter c.t1 rfl hmaj
    obtain ⟨G, I2, d⟩ := add_core (e := ⟨X.term, ⟨#[]⟩⟩) I I1 h.ni (by rw [h0]; exact List.nil_prefix) (fun x => absurd h0 x) rfl rfl c.t1
    refine ⟨_, G, I2, ?_⟩
    generalize hg : (g.setL i X.term (X.log ++ [⟨X.term, ⟨#[]⟩⟩])).setA i X.term (X.log.length + 1) = g' at G I2 d ⊢
    have hll : g'.ll X.term = X.log ++ [⟨X.term, ⟨#[]⟩⟩] := by rw [← hg]; exact setL_ll g i X.term _
    have hld : g'.ld X.term = i := by rw [← hg]; exact setL_ld g i X.term (X.log ++ [⟨X.term, ⟨#[]⟩⟩])
    have hack : X.log.length + 1 ≤ g'.ack i X.term := by
      rw [← hg]
      show _ ≤ if i = i ∧ X.term = X.term then max _ (X.log.length + 1) else _
      rw [if_pos ⟨rfl, rfl⟩]; omega
    have hV : g'.V i X.term = X.vote := by rw [← hg]; exact h.ni.v
    have hn := h.ni.n
    refine SI.agree (SI.toAll ?_ rfl) rfl
    refine SI.like (X := { rLead0 X with log := X.log ++ [⟨X.term, ⟨#[]⟩⟩] }) ?_ rfl rfl rfl rfl rfl rfl (.inl rfl) rfl rfl rfl rfl
    refine SI.grow I G ⟨d, hV, h.ni.id, h.ni.n, h.ni.ik, h.ni.k7, h.ni.v0, h.ni.vb, h.ni.c0, ?_, ?_, (fun e => absurd e (by decide : ¬ (3 : Int) = 2)), fun _ => ⟨hll, by simp, hld, fun v hv hvi => ?_, by show (X.log ++ [_]).length ≤ _; rw [List.length_append]; exact hack, fun v hv hvi => ?_⟩⟩ h rfl
    · show X.commit ≤ (X.log ++ [_]).length
      have := h.ni.c1
      rw [List.length_append]; omega
    · show Cm k g' X.term ((X.log ++ [_]).take X.commit.toNat)
      rw [List.take_append_of_le_length (by have := h.ni.c1; omega)]
      exact h.ni.com.grow G.toGLe
    · show 0 ≤ (if (v : Int) < X.n then 0 else X.matc v) ∧ (if (v : Int) < X.n then 0 else X.matc v) ≤ (g'.ack v X.term : Int)
      rw [if_pos (by omega)]; omega
    · show 1 ≤ (if (v : Int) < X.n then (X.log.length : Int) + 1 else X.next v) ∧ (if (v : Int) < X.n then (X.log.length : Int) + 1 else X.next v) ≤ (X.log ++ [_]).length + 1
      rw [if_pos (by omega), List.length_append]; omega
theorem bit_self {i t : Nat} (h : (2 ^ i).testBit t = true) : t = i := by
  rw [Nat.testBit_two_pow, decide_eq_true_iff] at h; exact h.symm
theorem does_stand0 (I : GI k g) (h : SI k g i X) : ∃ g', GBy i g g' ∧ GI k g' ∧ SI k g' i (rStand0 X) := by
  have d := h.ni.d
  have hlt : X.term < X.term + 1 := by omega
  have hv1 : g.V i (X.term + 1) = -1 ∨ g.V i (X.term + 1) = (i : Int) := .inl (d.futV _ hlt)
  have G1 := setV_by hv1
  have I1 := setV_gi I hv1
  have hc1 : (g.setV i (X.term + 1) i).cl (X.term + 1) i = none ∨ (g.setV i (X.term + 1) i).cl (X.term + 1) i = some X.log := .inl (d.futC _ hlt)
  have G2 := setC_by hc1
  have I2 := setC_gi I1 hc1
  have G := G1.trans G2
  refine ⟨_, G, I2, ?_⟩
  generalize hg : (g.setV i (X.term + 1) i).setC i (X.term + 1) X.log = g' at G I2 ⊢
  have hV : ∀ t, g'.V i t = if t = X.term + 1 then (i : Int) else g.V i t := fun t => by
    rw [← hg]
    show (if i = i ∧ t = X.term + 1 then (i : Int) else g.V i t) = _
    by_cases e : t = X.term + 1
    · rw [if_pos ⟨rfl, e⟩, if_pos e]
    · rw [if_neg fun x => e x.2, if_neg e]
  have hC : ∀ t, g'.cl t i = if t = X.term + 1 then some X.log else g.cl t i := fun t => by
    rw [← hg]
    show (if t = X.term + 1 ∧ (i : Int) = i then some X.log else g.cl t i) = _
    by_cases e : t = X.term + 1
    · rw [if_pos ⟨e, rfl⟩, if_pos e]
    · rw [if_neg fun x => e x.1, if_neg e]
  have eA : g'.ack = g.ack := by rw [← hg]; rfl
  have eL : g'.ll = g.ll := by rw [← hg]; rfl
  have eD : g'.ld = g.ld := by rw [← hg]; rfl
  have hid := h.ni.id
  have hd : DI g' i (X.term + 1) X.id X.log := by
    refine ⟨d.lm.grow G.toGLe, d.mono, d.ter.up (by omega), (d.kp.grow I G.toGLe fun t => by rw [eA]).up (by omega), fun t ht => ?_, fun t ht => ?_, fun t ht => by rw [eA]; exact d.futA t (by omega), fun t ht hne => by rw [eD]; rw [eL] at hne; exact d.futL t (by omega) hne, .inr (by rw [hV, if_pos rfl, hid]), by have := d.t0; omega⟩
    · rw [hV, if_neg (by omega)]; exact d.futV t (by omega)
    · rw [hC, if_neg (by omega)]; exact d.futC t (by omega)
  have hid := h.ni.id
  have hik := h.ni.ik
  have hk7 := h.ni.k7
  have hp : X.id.toNat = i := by omega
  refine SI.grow I G ⟨hd, by show g'.V i (X.term + 1) = X.id; rw [hV, if_pos rfl, hid], hid, h.ni.n, hik, h.ni.k7, by show -1 ≤ X.id; omega, pow7 (by omega) (by omega), h.ni.c0, h.ni.c1, ?_, fun _ => ⟨hid, by show g'.cl (X.term + 1) i = some X.log; rw [hC, if_pos rfl], ?_, fun hne => ?_, fun t ht => ?_, by show 1 ≤ X.term + 1; have := d.t0; omega⟩, (fun e => absurd e (by decide : ¬ (2 : Int) = 3))⟩ h rfl
  · exact (h.ni.com.grow G.toGLe).sub (List.prefix_refl _) (by show X.term ≤ X.term + 1; omega)
  · show Ter X.log (X.term + 1 - 1)
    rw [show X.term + 1 - 1 = X.term by omega]; exact d.ter
  · have hne : g'.ll (X.term + 1) ≠ [] := hne
    show g'.ld (X.term + 1) ≠ i
    rw [eD]; rw [eL] at hne
    exact d.futL _ hlt hne
  · have ht : (2 ^ X.id.toNat).testBit t = true := ht
    rw [hp] at ht
    have := bit_self ht
    subst this
    refine ⟨hik, by show g'.V t (X.term + 1) = _; rw [hV, if_pos rfl], fun _ => ⟨X.log, X.log, by show g'.cl (X.term + 1) t = _; rw [hC, if_pos rfl], hd.lm, d.mono, .inr ⟨rfl, Nat.le_refl _⟩, fun t0 j ht0 hj ho => ?_⟩⟩
    have ht0 : t0 < X.term + 1 := ht0
    rcases (d.kp.grow I G.toGLe fun t => by rw [eA]) t0 j hj ho with h1 | ⟨u, h1, h2⟩
    · exact .inl h1
    · exact .inr ⟨u, by show u < X.term + 1; omega, h2⟩
theorem does_stands (I : GI k g) (h : SI k g i X) : Does k g i (rStands X) := by
  obtain ⟨g1, G1, I1, h1⟩ := does_stand0 I h
  refine Does.bind ⟨g1, G1, I1, h1⟩ fun g2 I2 h2 => ?_
  have hid := h.ni.id
  have hik := h.ni.ik
  have hk7 := h.ni.k7
  unfold rStands
  split
  · rename_i hm
    have c := h2.ni.cand rfl
    exact does_leads I2 h2 rfl (v := 2 ^ X.id.toNat) hm (pow7 (by omega) (by omega)) c.vs
  · refine .same I2 (h2.all fun t => ?_)
    have c := h2.ni.cand rfl
    refine ⟨fun _ => ⟨X.log, ?_, rfl, rfl⟩, fun e => absurd e (by decide : ¬ (3 : Int) = 4), fun e => absurd e (by decide : ¬ (3 : Int) = 5), fun e => absurd e (by decide : ¬ (3 : Int) = 6)⟩
    have := c.cl
    show g2.cl (X.term + 1) X.id = some X.log
    rw [hid]; exact this
theorem does_asks (I : GI k g) (h : SI k g i X) : Does k g i (rAsks X) := by
  have hid := h.ni.id
  have hik := h.ni.ik
  have hk7 := h.ni.k7
  have h1 : SI k g i (rAsk0 X) := ⟨⟨h.ni.d, h.ni.v, h.ni.id, h.ni.n, h.ni.ik, h.ni.k7, h.ni.v0, pow7 (by omega) (by omega), h.ni.c0, h.ni.c1, h.ni.com, (fun e => absurd e (by decide : ¬ (1 : Int) = 2)), (fun e => absurd e (by decide : ¬ (1 : Int) = 3))⟩, h.out⟩
  unfold rAsks
  split
  · exact does_stands I h1
  · exact .same I (h1.all fun t => mi_none (.inl rfl))
theorem si_beat (h : SI k g i X) (hr : X.role = 3) : SI k g i (rBeat X) := by
  unfold rBeat
  split
  · exact h.toAll hr
  · exact h
theorem si_lead (h : SI k g i X) (hr : X.role = 3) : SI k g i (rLead X) := by
  unfold rLead
  split
  · split
    · refine SI.like (X := rFollow X X.term (-1)) h.follow ?_ ?_ ?_ ?_ ?_ ?_ (.inl ?_) ?_ ?_ ?_ ?_ <;> (unfold rFollow; rw [if_neg (by show ¬ X.term > X.term; omega), if_neg (by show ¬ X.term > X.term; omega)])
    · exact si_beat (X := { X with quiet := 0, heard := 0 }) (h.like rfl rfl rfl rfl rfl rfl (.inl rfl) rfl rfl rfl rfl) hr
  · exact si_beat (X := { X with quiet := X.quiet + 1 }) (h.like rfl rfl rfl rfl rfl rfl (.inl rfl) rfl rfl rfl rfl) hr
theorem does_tick (I : GI k g) (h : SI k g i X) {draw : Int} : Does k g i (rTick X draw) := by
  have h1 : SI k g i { X with since := X.since + 1 } := h.like rfl rfl rfl rfl rfl rfl (.inl rfl) rfl rfl rfl rfl
  unfold rTick
  generalize (if 0 > draw then 0 else draw) % X.elect = dr
  split
  · rename_i hr; exact .same I (si_lead h1 hr)
  · split
    · exact does_asks I h1
    · exact .same I h1
theorem does_propose (I : GI k g) (h : SI k g i X) {data : ByteArray} : Does k g i (rPropose X data).1 := by
  unfold rPropose
  split
  · exact .same I h
  · rename_i hr
    split
    · exact .same I h
    · split <;> exact does_add I h (Decidable.not_not.1 hr)
end
end Go.Proofs.YtniojdaddolnfaaGreat

/-
  Layer 10 (group), plain: what a message does keeps what always holds; and so does a part of what was to be saved.
-/
namespace Go.Proofs.YtniojdaddolnfaaGreat

section
variable {k : Nat} {g : GH} {i : Nat} {X Y : RN} {m : RM}
theorem NI.norole (h : NI k g i X) (h1 : Y.term = X.term) (h2 : Y.vote = X.vote) (h3 : Y.log = X.log) (h4 : Y.id = X.id) (h5 : Y.n = X.n) (h6 : Y.commit = X.commit) (h7 : Y.role ≠ 2 ∧ Y.role ≠ 3) (h8 : Y.votes < 128) : NI k g i Y :=
  ⟨by rw [h1, h2, h3]; exact h.d, by rw [h1, h2]; exact h.v, by rw [h4]; exact h.id, by rw [h5]; exact h.n, h.ik, h.k7, by rw [h2]; exact h.v0, h8, by rw [h6]; exact h.c0, by rw [h6, h3]; exact h.c1, by rw [h1, h3, h6]; exact h.com, fun e => absurd e h7.1, fun e => absurd e h7.2⟩
theorem does_askPre (I : GI k g) (h : SI k g i X) : Does k g i (rAskPre X m) := .same I (h.send (mi_none (.inr (.inl rfl))))
theorem does_tellPre (I : GI k g) (h : SI k g i X) (hf : 0 ≤ m.from_ ∧ m.from_ < X.n) : Does k g i (rTellPre X m) := by
  unfold rTellPre
  have hn := h.ni.n
  have hk := h.ni.k7
  split
  · exact .same I h.follow
  · split
    · rename_i hr
      have h1 : SI k g i { X with votes := X.votes ||| 2 ^ m.from_.toNat } := ⟨h.ni.norole rfl rfl rfl rfl rfl rfl ⟨by show X.role ≠ 2; omega, by show X.role ≠ 3; omega⟩ (or7 h.ni.vb hf.1 (by omega)), h.out⟩
      split
      · exact does_stands I h1
      · exact .same I h1
    · exact .same I h
theorem does_told (I : GI k g) (h : SI k g i X) {to index : Int} : Does k g i (rTold X to false index) := .same I (h.send (mi_none (.inr (.inr (.inr ⟨rfl, rfl⟩)))))
theorem rec_of (h : NI k g i X) {c : Int} {lc : List RE} (hc : g.cl X.term c = some lc) (hu : Utd lc X.log) (h0 : g.ll X.term = []) : Rec g X.term c i :=
  ⟨X.log, lc, hc, h.d.lm, h.d.mono, hu, fun t0 j ht hj ho => by
    rcases h.d.kp t0 j hj ho with h1 | ⟨u, h1, h2⟩
    · exact .inl h1
    · refine .inr ⟨u, ?_, h2⟩
      rcases Int.lt_or_eq_of_le h1 with h3 | h3
      · exact h3
      · rw [h3] at h2; exact absurd h0 h2.2.1⟩
theorem does_askVote (I : GI k g) (h : SI k g i X) (hm : MI k g m) (hk : m.kind = 3) (ht : m.term = X.term) (hf : 0 ≤ m.from_ ∧ m.from_ < X.n ∧ m.from_ ≠ X.id) : Does k g i (rAskVote X m) := by
  unfold rAskVote
  have hn := h.ni.n
  have hid := h.ni.id
  have hik := h.ni.ik
  by_cases hv : voteB X m
  · rw [if_pos hv, decide_eq_true hv]
    obtain ⟨h1, h2, h3⟩ := hv
    have hr : X.role ≠ 2 := fun e => by
      have c := h.ni.cand e
      have := c.vote
      omega
    have hV : g.V i X.term = -1 ∨ g.V i X.term = m.from_ := by rw [h.ni.v]; exact h1
    have G := setV_by hV
    have I1 := setV_gi I hV
    have hV1 : (g.setV i X.term m.from_).V i X.term = m.from_ := if_pos ⟨rfl, rfl⟩
    refine ⟨_, G, I1, ?_⟩
    have d := h.ni.d
    have d1 : DI (g.setV i X.term m.from_) i X.term m.from_ X.log := ⟨d.lm, d.mono, d.ter, d.kp, fun t ht => by
      show (if i = i ∧ t = X.term then m.from_ else g.V i t) = -1
      rw [if_neg (by omega)]; exact d.futV t ht, d.futC, d.futA, d.futL, .inr hV1, d.t0⟩
    have n1 : NI k (g.setV i X.term m.from_) i { X with hard := X.hard || (X.vote != m.from_), vote := m.from_, since := 0 } :=
      ⟨d1, hV1, h.ni.id, h.ni.n, h.ni.ik, h.ni.k7, by show -1 ≤ m.from_; omega, h.ni.vb, h.ni.c0, h.ni.c1, h.ni.com.grow G.toGLe, fun e => absurd e hr, fun e => absurd e h2⟩
    refine SI.send (SI.grow I G n1 h rfl) ⟨fun e => absurd e (by decide : ¬ (4 : Int) = 3), fun _ _ => ⟨by show 0 ≤ X.id; omega, by show X.id < k; omega, hf.1, ?_, fun h0 => ?_⟩, fun e => absurd e (by decide : ¬ (4 : Int) = 5), fun e => absurd e (by decide : ¬ (4 : Int) = 6)⟩
    · show (g.setV i X.term m.from_).V X.id.toNat X.term = m.from_
      rw [show X.id.toNat = i by omega]; exact hV1
    · have h0 : g.ll X.term = [] := h0
      show Rec (g.setV i X.term m.from_) X.term m.from_ X.id.toNat
      rw [show X.id.toNat = i by omega]
      obtain ⟨lc, c1, c2, c3⟩ := hm.1 hk
      rw [ht] at c1
      refine rec_of n1 (X := { X with hard := X.hard || (X.vote != m.from_), vote := m.from_, since := 0 }) c1 ?_ h0
      show Utd lc X.log
      unfold youngB at h3
      unfold Utd
      omega
  · rw [if_neg hv, decide_eq_false hv]
    exact .same I (h.send (mi_none (.inr (.inr (.inl ⟨rfl, rfl⟩)))))
theorem does_tellVote (I : GI k g) (h : SI k g i X) (hm : MI k g m) (hk : m.kind = 4) (ht : m.term = X.term) (hto : m.to = X.id) (hf : 0 ≤ m.from_ ∧ m.from_ < X.n) : Does k g i (rTellVote X m) := by
  unfold rTellVote
  have hn := h.ni.n
  have hk7 := h.ni.k7
  have hid := h.ni.id
  split
  · exact .same I h
  · rename_i hno
    have hy : m.yes = true := by cases e : m.yes; exact absurd (.inl e) hno; rfl
    have hr : X.role = 2 := Decidable.byContradiction fun e => hno (.inr e)
    obtain ⟨a, b, c, d, f⟩ := hm.2.1 hk hy
    rw [ht] at d f
    rw [hto, hid] at d f
    have cd := h.ni.cand hr
    have hq : ∀ t, (X.votes ||| 2 ^ m.from_.toNat).testBit t = true → t < k ∧ g.V t X.term = i ∧ (g.ll X.term = [] → Rec g X.term i t) := fun t htb => by
      rw [Nat.testBit_or, Bool.or_eq_true] at htb
      rcases htb with htb | htb
      · exact cd.vs t htb
      · rw [bit_self htb]
        exact ⟨by omega, d, f⟩
    have hv7 : X.votes ||| 2 ^ m.from_.toNat < 128 := or7 h.ni.vb hf.1 (by omega)
    have h1 : SI k g i { X with votes := X.votes ||| 2 ^ m.from_.toNat } := ⟨⟨h.ni.d, h.ni.v, h.ni.id, h.ni.n, h.ni.ik, h.ni.k7, h.ni.v0, hv7, h.ni.c0, h.ni.c1, h.ni.com, fun _ => ⟨cd.vote, cd.cl, cd.ter, cd.no, hq, cd.t1⟩, fun e => absurd (hr.symm.trans e) (by decide)⟩, h.out⟩
    split
    · rename_i hmo
      exact does_leads I h1 hr (v := X.votes ||| 2 ^ m.from_.toNat) hmo hv7 hq
    · exact .same I h1
/-! ### Entries that come -/
theorem take_eq_of_term {a b : List RE} (ha : LM g a) (hb : LM g b) {n : Nat} {x y : RE} (h1 : a[n]? = some x) (h2 : b[n]? = some y) (he : x.term = y.term) : a.take (n + 1) = b.take (n + 1) := by
  obtain ⟨l1, e1⟩ := List.getElem?_eq_some_iff.1 h1
  obtain ⟨l2, e2⟩ := List.getElem?_eq_some_iff.1 h2
  have p1 := ha n l1
  have p2 := hb n l2
  rw [e1, he] at p1
  rw [e2] at p2
  have n1 : (a.take (n + 1)).length = n + 1 := by rw [List.length_take]; omega
  have n2 : (b.take (n + 1)).length = n + 1 := by rw [List.length_take]; omega
  exact pre_same (pre_both p1 p2 (by omega)) (by omega)
theorem get_of_take {a b : List RE} {n j : Nat} (h : a.take n = b.take n) (hj : j < n) : a[j]? = b[j]? := by
  rw [← List.getElem?_take_of_lt hj, h, List.getElem?_take_of_lt hj]
theorem pre_of_take {p l : List RE} {n : Nat} (h : p = l.take n) : p <+: l := by rw [h]; exact take_pre _ _
theorem ents_get {L ents : List RE} {n q : Nat} (h : ents <+: L.drop n) (hq : q < ents.length) : L[n + q]? = ents[q]? := by
  have := get_of_pre h hq
  rwa [List.getElem?_drop] at this
structure AppI (k : Nat) (g : GH) (i : Nat) (X : RN) (m : RM) : Prop where
  i0 : 0 ≤ m.index
  last : m.index.toNat + m.ents.length ≤ (g.ll X.term).length
  has : (g.ll X.term).take (m.index.toNat + m.ents.length) <+: (putR X.log m.index m.logTerm m.ents).1
  same : ¬ (putR X.log m.index m.logTerm m.ents).2.1 > 0 → (putR X.log m.index m.logTerm m.ents).1 = X.log
  new : (putR X.log m.index m.logTerm m.ents).2.1 > 0 → ∃ p : Nat, (putR X.log m.index m.logTerm m.ents).2.1 = (p : Int) + 1 ∧ p ≤ X.log.length ∧ m.index.toNat ≤ p ∧ p < m.index.toNat + m.ents.length ∧ m.index + m.ents.length ≤ 1024 ∧
    (putR X.log m.index m.logTerm m.ents).1 = (g.ll X.term).take (m.index.toNat + m.ents.length) ∧ X.log.take p = (g.ll X.term).take p ∧ ∀ p', p ≤ p' → DI g i X.term X.vote ((g.ll X.term).take p')
theorem app_core (I : GI k g) (h : NI k g i X) (hm : MI k g m) (hk : m.kind = 5) (ht : m.term = X.term) (hok : (putR X.log m.index m.logTerm m.ents).2.2 = 0) : AppI k g i X m := by
  obtain ⟨a1, a2, a3, a4, a5, a6, a7, a8⟩ := hm.2.2.1 hk
  rw [ht] at a1 a2 a4 a5 a6 a7 a8
  have L := I.L X.term a1
  have hlast : m.index.toNat + m.ents.length ≤ (g.ll X.term).length := by
    have := pre_len a6
    rw [List.length_drop] at this
    omega
  unfold putR at hok
  by_cases c1 : (termAt X.log m.index).2 = false
  · rw [if_pos c1] at hok; exact absurd hok (show ¬ (6 : Int) = 0 by decide)
  rw [if_neg c1] at hok
  by_cases c2 : (termAt X.log m.index).1 ≠ m.logTerm
  · rw [if_pos c2] at hok; exact absurd hok (show ¬ (8 : Int) = 0 by decide)
  rw [if_neg c2] at hok
  by_cases c3 : fallsR m.logTerm m.ents = true
  · rw [if_pos c3] at hok; exact absurd hok (show ¬ (5 : Int) = 0 by decide)
  rw [if_neg c3] at hok
  have hput : putR X.log m.index m.logTerm m.ents = if knownR (X.log.drop m.index.toNat) m.ents = m.ents.length then (X.log, 0, 0) else if m.index + m.ents.length > 1024 then (X.log, 0, 7)
      else (X.log.take (m.index.toNat + knownR (X.log.drop m.index.toNat) m.ents) ++ m.ents.drop (knownR (X.log.drop m.index.toNat) m.ents), m.index + knownR (X.log.drop m.index.toNat) m.ents + 1, 0) := by
    unfold putR; rw [if_neg c1, if_neg c2, if_neg c3]
  have c2 : (termAt X.log m.index).1 = m.logTerm := Decidable.not_not.1 c2
  have hil : m.index ≤ X.log.length := by
    unfold termAt at c1
    by_cases e : m.index < 0 ∨ m.index > X.log.length
    · rw [if_pos e] at c1; exact absurd rfl c1
    · omega
  -- the logs agree up to the index
  have ag1 : X.log.take m.index.toNat = (g.ll X.term).take m.index.toNat := by
    rcases Nat.eq_zero_or_pos m.index.toNat with e | e
    · rw [e]; rfl
    · obtain ⟨q, hq⟩ : ∃ q, m.index.toNat = q + 1 := ⟨m.index.toNat - 1, by omega⟩
      have t1 : (termAt X.log m.index).1 = (X.log[q]'(by omega)).term := by
        unfold termAt
        rw [if_neg (by omega), if_neg (by omega), hq, Nat.add_sub_cancel, List.getElem?_eq_getElem (by omega)]
        rfl
      have t2 : (termAt (g.ll X.term) m.index).1 = ((g.ll X.term)[q]'(by omega)).term := by
        unfold termAt
        rw [if_neg (by omega), if_neg (by omega), hq, Nat.add_sub_cancel, List.getElem?_eq_getElem (by omega)]
        rfl
      rw [hq]
      exact take_eq_of_term h.d.lm L.lm (List.getElem?_eq_getElem (by omega)) (List.getElem?_eq_getElem (by omega)) (by rw [← t1, ← t2, c2, a5])
  generalize hn : knownR (X.log.drop m.index.toNat) m.ents = n at *
  have hle := knownR_le (X.log.drop m.index.toNat) m.ents
  rw [hn, List.length_drop] at hle
  -- and up to what is known
  have ag2 : X.log.take (m.index.toNat + n) = (g.ll X.term).take (m.index.toNat + n) := by
    rcases Nat.eq_zero_or_pos n with e | e
    · rw [e, Nat.add_zero]; exact ag1
    · obtain ⟨q, rfl⟩ : ∃ q, n = q + 1 := ⟨n - 1, by omega⟩
      obtain ⟨x, y, h1, h2, h3⟩ := knownR_eq (X.log.drop m.index.toNat) m.ents q (by omega)
      rw [List.getElem?_drop] at h1
      rw [← ents_get a6 (by omega)] at h2
      have := take_eq_of_term h.d.lm L.lm h1 h2 h3
      rwa [← Nat.add_assoc]
  by_cases c4 : n = m.ents.length
  · rw [if_pos c4] at hput
    refine ⟨a3, hlast, ?_, fun _ => by rw [hput], fun x => absurd x (by rw [hput]; exact (show ¬ (0 : Int) > 0 by decide))⟩
    rw [hput, ← c4, ← ag2]
    exact take_pre _ _
  rw [if_neg c4] at hput hok
  by_cases c5 : m.index + m.ents.length > 1024
  · rw [if_pos c5] at hok; exact absurd hok (show ¬ (7 : Int) = 0 by decide)
  rw [if_neg c5] at hput
  have hnew : X.log.take (m.index.toNat + n) ++ m.ents.drop n = (g.ll X.term).take (m.index.toNat + m.ents.length) := by
    rw [ag2]
    have e1 : m.ents = ((g.ll X.term).drop m.index.toNat).take m.ents.length := pre_take a6
    have e2 : m.ents.drop n = ((g.ll X.term).drop (m.index.toNat + n)).take (m.ents.length - n) := by
      conv => lhs; rw [e1]
      rw [List.drop_take, List.drop_drop]
    rw [e2, ← List.take_add]
    congr 1; omega
  rw [hnew] at hput
  refine ⟨a3, hlast, by rw [hput]; exact List.prefix_refl _, fun x => absurd (show (m.index + n + 1 : Int) > 0 by omega) (by rw [hput] at x; exact x), fun _ => ⟨m.index.toNat + n, by rw [hput]; show m.index + (n : Int) + 1 = _; omega, by omega, by omega, by omega, by omega, by rw [hput], ag2, fun p' hp' => ?_⟩⟩
  have hp : (g.ll X.term).take p' <+: g.ll X.term := take_pre _ _
  refine ⟨L.lm.sub hp, L.mono.sub hp, L.ter.sub hp, fun t j hj ho => ?_, h.d.futV, h.d.futC, h.d.futA, h.d.futL, h.d.vot, h.d.t0⟩
  rcases h.d.kp t j hj ho with h1 | h1
  · have htT : t ≤ X.term := by
      rcases Int.lt_or_le X.term t with x | x
      · have := h.d.futA t x
        have := ho.1
        omega
      · exact x
    by_cases h2 : (g.ll t).take j <+: g.ll X.term
    · have hlen : ((g.ll t).take j).length = j := by rw [List.length_take]; have := ho.len; omega
      have hjl := pre_len h1
      have hjL := pre_len h2
      refine .inl (pre_both h2 hp ?_)
      rw [hlen, List.length_take]
      have : j ≤ m.index.toNat + n := Decidable.byContradiction fun hx => by
        have hx : m.index.toNat + n < j := by omega
        obtain ⟨x, y, h3, h4, h5⟩ := knownR_ne (X.log.drop m.index.toNat) m.ents (by rw [hn, List.length_drop]; omega) (by rw [hn]; omega)
        rw [hn] at h3 h4
        rw [List.getElem?_drop] at h3
        rw [← ents_get a6 (by omega)] at h4
        have e1 := get_of_pre h1 (n := m.index.toNat + n) (by omega)
        have e2 := get_of_pre h2 (n := m.index.toNat + n) (by omega)
        rw [← e1] at e2
        rw [h3, h4] at e2
        injection e2 with e2
        rw [e2] at h5
        exact h5 rfl
      omega
    · refine .inr ⟨X.term, Int.le_refl _, ?_, a1, h2⟩
      rcases Int.lt_or_eq_of_le htT with x | x
      · exact x
      · rw [x] at h2; exact absurd (take_pre _ _) h2
  · exact .inr h1
theorem rApp0_eq (X : RN) (m : RM) : rApp0 X m = { X with role := 0, leader := m.from_, since := 0 } := by
  unfold rApp0 rFollow
  rw [if_neg (by omega)]
theorem si_app0 (h : SI k g i X) : SI k g i (rApp0 X m) := by
  rw [rApp0_eq]
  exact h.like rfl rfl rfl rfl rfl rfl (.inr ⟨(by decide : ¬ (0 : Int) = 2), (by decide : ¬ (0 : Int) = 3)⟩) rfl rfl rfl rfl
theorem mi_told {to : Int} {n : Nat} (hid : X.id = i) (hn : n ≤ g.ack i X.term) {index : Int} (hi : index ≤ n) : MI k g { (⟨6, 0, 0, X.term, index, 0, 0, true, []⟩ : RM) with from_ := X.id, to := to } :=
  ⟨fun e => absurd e (by decide : ¬ (6 : Int) = 3), fun e => absurd e (by decide : ¬ (6 : Int) = 4), fun e => absurd e (by decide : ¬ (6 : Int) = 5), fun _ _ => by
    show index ≤ g.ack X.id.toNat X.term
    rw [show X.id.toNat = i by omega]; omega⟩
/-- What a node acknowledges stands in its log. -/
theorem does_ack (I : GI k g) (h : SI k g i X) (hr : X.role ≠ 2 ∧ X.role ≠ 3) {n : Nat} {to index : Int} (hi : index ≤ n) (hn : n ≤ (g.ll X.term).length) (hp : (g.ll X.term).take n <+: X.log) : Does k g i (rTold X to true index) := by
  have d := h.ni.d
  have G := setA_by (n := n) d.futV
  have I1 := setA_gi I d.futV hn
  refine ⟨_, G, I1, SI.send (SI.grow (X := X) I G ?_ h rfl) (mi_told (n := n) h.ni.id ?_ hi)⟩
  · exact ⟨⟨d.lm, d.mono, d.ter, d.kp.ack hp hn, d.futV, d.futC, fun t ht => by
      show (if i = i ∧ t = X.term then _ else g.ack i t) = 0
      rw [if_neg (by omega)]; exact d.futA t ht, d.futL, d.vot, d.t0⟩, h.ni.v, h.ni.id, h.ni.n, h.ni.ik, h.ni.k7, h.ni.v0, h.ni.vb, h.ni.c0, h.ni.c1, h.ni.com.grow G.toGLe, fun e => absurd e hr.1, fun e => absurd e hr.2⟩
  · show n ≤ if i = i ∧ X.term = X.term then max (g.ack i X.term) n else g.ack i X.term
    rw [if_pos ⟨rfl, rfl⟩]; omega
theorem rPut_same (X : RN) (m : RM) : (rPut X m).term = X.term ∧ (rPut X m).vote = X.vote ∧ (rPut X m).id = X.id ∧ (rPut X m).n = X.n ∧ (rPut X m).commit = X.commit ∧ (rPut X m).role = X.role ∧ (rPut X m).votes = X.votes ∧ (rPut X m).out = X.out ∧ (rPut X m).hard = X.hard ∧ (rPut X m).log = (putR X.log m.index m.logTerm m.ents).1 := by
  unfold rPut rDirty
  split <;> exact ⟨rfl, rfl, rfl, rfl, rfl, rfl, rfl, rfl, rfl, rfl⟩
theorem does_append (I : GI k g) (h : SI k g i X) (hm : MI k g m) (hk : m.kind = 5) (ht : m.term = X.term) : Does k g i (rAppend X m) := by
  unfold rAppend
  have h1 := si_app0 (m := m) h
  have e0 := rApp0_eq X m
  obtain ⟨a1, a2, a3, a4, a5, a6, a7, a8⟩ := hm.2.2.1 hk
  rw [ht] at a1 a2 a4 a5 a6 a7 a8
  split
  · exact .same I h
  split
  · -- committed already
    have hp : X.log.take X.commit.toNat <+: g.ll X.term := h.ni.com.pre I.L a1
    have hc0 := h.ni.c0
    have hc1 := h.ni.c1
    have hl : (X.log.take X.commit.toNat).length = X.commit.toNat := by rw [List.length_take]; omega
    have := pre_len hp
    have hp2 : (g.ll X.term).take X.commit.toNat = X.log.take X.commit.toNat := by
      have := pre_take hp
      rw [hl] at this
      exact this.symm
    rw [e0] at h1 ⊢
    refine does_ack I h1 ⟨(by decide : ¬ (0 : Int) = 2), (by decide : ¬ (0 : Int) = 3)⟩ (n := X.commit.toNat) (by omega) (by show X.commit.toNat ≤ (g.ll X.term).length; omega) ?_
    show (g.ll X.term).take X.commit.toNat <+: X.log
    rw [hp2]; exact take_pre _ _
  split
  · exact does_told I h1
  · rename_i hr hc hok
    have A := app_core I h.ni hm hk ht (Decidable.not_not.1 hok)
    have hc0 := h.ni.c0
    have hc1 := h.ni.c1
    have hc : X.commit ≤ m.index := by omega
    obtain ⟨p1, p2, p3, p4, p5, p6, p7, p8, p9, p10⟩ := rPut_same (rApp0 X m) m
    have p1 : (rPut (rApp0 X m) m).term = X.term := p1.trans (by rw [e0])
    have p2 : (rPut (rApp0 X m) m).vote = X.vote := p2.trans (by rw [e0])
    have p3 : (rPut (rApp0 X m) m).id = X.id := p3.trans (by rw [e0])
    have p4 : (rPut (rApp0 X m) m).n = X.n := p4.trans (by rw [e0])
    have p6 : (rPut (rApp0 X m) m).role = 0 := p6.trans (by rw [e0])
    have p7 : (rPut (rApp0 X m) m).votes = X.votes := p7.trans (by rw [e0])
    have p8 : (rPut (rApp0 X m) m).out = X.out := p8.trans (by rw [e0])
    have p10 : (rPut (rApp0 X m) m).log = (putR X.log m.index m.logTerm m.ents).1 := p10.trans (by rw [e0])
    -- the log behind it
    have key : ∀ Z : RN, Z.term = X.term → Z.vote = X.vote → Z.id = X.id → Z.n = X.n → Z.role = 0 → Z.votes = X.votes → Z.out = X.out → Z.log = (putR X.log m.index m.logTerm m.ents).1 → Z.commit = mx X.commit (mn m.commit (m.index + m.ents.length)) → SI k g i Z := fun Z z1 z2 z3 z4 z5 z6 z7 z8 z9 => by
      have hpre : (putR X.log m.index m.logTerm m.ents).1.take X.commit.toNat = X.log.take X.commit.toNat := by
        by_cases hch : (putR X.log m.index m.logTerm m.ents).2.1 > 0
        · obtain ⟨p, _, q2, q3, q4, _, q5, q6, _⟩ := A.new hch
          rw [q5, List.take_take, show min X.commit.toNat (m.index.toNat + m.ents.length) = min X.commit.toNat p by omega, ← List.take_take, ← q6, List.take_take, show min X.commit.toNat p = X.commit.toNat by omega]
        · rw [A.same hch]
      have hd : DI g i X.term X.vote (putR X.log m.index m.logTerm m.ents).1 := by
        by_cases hch : (putR X.log m.index m.logTerm m.ents).2.1 > 0
        · obtain ⟨p, _, q2, q3, q4, _, q5, q6, q7⟩ := A.new hch
          rw [q5]; exact q7 _ (by omega)
        · rw [A.same hch]; exact h.ni.d
      have hlen := pre_len A.has
      rw [List.length_take, Nat.min_eq_left A.last] at hlen
      have i0 := A.i0
      have hm1 : mn m.commit (m.index + m.ents.length) ≤ m.index + m.ents.length ∧ mn m.commit (m.index + m.ents.length) ≤ m.commit := by unfold mn; split <;> omega
      have hmx : mx X.commit (mn m.commit (m.index + m.ents.length)) = X.commit ∨ (mx X.commit (mn m.commit (m.index + m.ents.length)) = mn m.commit (m.index + m.ents.length) ∧ X.commit < mn m.commit (m.index + m.ents.length)) := by unfold mx; split <;> omega
      generalize mn m.commit (m.index + m.ents.length) = c1 at *
      refine ⟨⟨by rw [z1, z2, z8]; exact hd, by rw [z1, z2]; exact h.ni.v, by rw [z3]; exact h.ni.id, by rw [z4]; exact h.ni.n, h.ni.ik, h.ni.k7, by rw [z2]; exact h.ni.v0, by rw [z6]; exact h.ni.vb, by rw [z9]; omega, by rw [z9, z8]; omega, ?_, fun e => by rw [z5] at e; exact absurd e (by decide), fun e => by rw [z5] at e; exact absurd e (by decide)⟩, by rw [z7]; exact h.out⟩
      rw [z1, z8, z9]
      rcases hmx with e | ⟨e, e'⟩
      · rw [e, hpre]; exact h.ni.com
      · rw [e]
        have e2 : (putR X.log m.index m.logTerm m.ents).1.take c1.toNat = (g.ll X.term).take c1.toNat := by
          have := take_of_pre A.has (n := c1.toNat) (by rw [List.length_take]; have := A.last; omega)
          rw [List.take_take, Nat.min_eq_left (by omega)] at this
          exact this.symm
        rw [e2]
        exact a8.sub (pre_take2 (by omega)) (Int.le_refl _)
    have hS : SI k g i { rPut (rApp0 X m) m with commit := mx X.commit (mn m.commit (m.index + m.ents.length)) } := by
      refine key _ ?_ ?_ ?_ ?_ ?_ ?_ ?_ ?_ rfl
      · exact p1
      · exact p2
      · exact p3
      · exact p4
      · exact p6
      · exact p7
      · exact p8
      · exact p10
    have hlast := A.last
    have i0 := A.i0
    refine does_ack I hS ?_ (n := m.index.toNat + m.ents.length) (by omega) ?_ ?_
    · show (rPut (rApp0 X m) m).role ≠ 2 ∧ (rPut (rApp0 X m) m).role ≠ 3
      rw [p6]; exact ⟨by decide, by decide⟩
    · show _ ≤ (g.ll (rPut (rApp0 X m) m).term).length
      rw [p1]; exact hlast
    · show (g.ll (rPut (rApp0 X m) m).term).take _ <+: (rPut (rApp0 X m) m).log
      rw [p1, p10]; exact A.has
theorem mx_or (a b : Int) : mx a b = a ∨ mx a b = b := by unfold mx; split <;> simp
theorem does_hears (I : GI k g) (h : SI k g i X) (hm : MI k g m) (hk : m.kind = 6) (ht : m.term = X.term) (hf : 0 ≤ m.from_ ∧ m.from_ < X.n ∧ m.from_ ≠ X.id) : Does k g i (rHears X m) := by
  unfold rHears
  have hn := h.ni.n
  have hid := h.ni.id
  split
  · exact .same I h
  · rename_i hr
    have hr : X.role = 3 := Decidable.not_not.1 hr
    have L := h.ni.lead hr
    have hA := I.A m.from_.toNat X.term
    rw [L.ll] at hA
    have hft : m.from_.toNat < k ∧ m.from_.toNat ≠ i := by omega
    have hmt := L.mt _ hft.1 hft.2
    have hnx := L.nx _ hft.1 hft.2
    split
    · rename_i hc
      have hack := hm.2.2.2 hk hc.1
      rw [ht] at hack
      have h1 : SI k g i (rHear1 X m.from_.toNat m.index) := by
        refine ⟨⟨h.ni.d, h.ni.v, h.ni.id, h.ni.n, h.ni.ik, h.ni.k7, h.ni.v0, h.ni.vb, h.ni.c0, h.ni.c1, h.ni.com, fun e => absurd (hr.symm.trans e) (by decide), fun _ => ⟨L.ll, L.ne, L.ld, fun v hv hvi => ?_, L.me, fun v hv hvi => ?_⟩⟩, h.out⟩
        · show 0 ≤ upd X.matc m.from_.toNat (mx (X.matc m.from_.toNat) m.index) v ∧ upd X.matc m.from_.toNat (mx (X.matc m.from_.toNat) m.index) v ≤ g.ack v X.term
          unfold upd
          by_cases e : v = m.from_.toNat
          · rw [if_pos e, e]
            unfold mx; split <;> omega
          · rw [if_neg e]; exact L.mt v hv hvi
        · show 1 ≤ upd X.next m.from_.toNat (mx (X.matc m.from_.toNat) m.index + 1) v ∧ upd X.next m.from_.toNat (mx (X.matc m.from_.toNat) m.index + 1) v ≤ (X.log.length : Int) + 1
          unfold upd
          by_cases e : v = m.from_.toNat
          · rw [if_pos e]
            unfold mx; split <;> omega
          · rw [if_neg e]; exact L.nx v hv hvi
      have h2 := h1.agree hr
      split
      · refine .same I (h2.to ?_ hft.1 hft.2)
        rw [(rAgree_keeps _).2.1]; exact hr
      · exact .same I h2
    · split
      · have h1 : SI k g i (rHear2 X m.from_.toNat m.index) := by
          refine ⟨⟨h.ni.d, h.ni.v, h.ni.id, h.ni.n, h.ni.ik, h.ni.k7, h.ni.v0, h.ni.vb, h.ni.c0, h.ni.c1, h.ni.com, fun e => absurd (hr.symm.trans e) (by decide), fun _ => ⟨L.ll, L.ne, L.ld, L.mt, L.me, fun v hv hvi => ?_⟩⟩, h.out⟩
          show 1 ≤ upd X.next m.from_.toNat (mx (mn (mn (mx m.index 0) X.log.length + 1) (X.next m.from_.toNat - 1)) (X.matc m.from_.toNat + 1)) v ∧ upd X.next m.from_.toNat (mx (mn (mn (mx m.index 0) X.log.length + 1) (X.next m.from_.toNat - 1)) (X.matc m.from_.toNat + 1)) v ≤ (X.log.length : Int) + 1
          unfold upd
          by_cases e : v = m.from_.toNat
          · rw [if_pos e]
            have : mn (mx m.index 0) X.log.length ≤ X.log.length := by unfold mn; split <;> omega
            generalize mn (mx m.index 0) (X.log.length : Int) = q at *
            have : mn (q + 1) (X.next m.from_.toNat - 1) ≤ q + 1 := by unfold mn; split <;> omega
            generalize mn (q + 1) (X.next m.from_.toNat - 1) = r at *
            unfold mx; split <;> omega
          · rw [if_neg e]; exact L.nx v hv hvi
        exact .same I (h1.to hr hft.1 hft.2)
      · exact .same I (h.like rfl rfl rfl rfl rfl rfl (.inl rfl) rfl rfl rfl rfl)
theorem rNewer_same' (X : RN) (m : RM) : (rNewer X m).n = X.n ∧ (rNewer X m).id = X.id := by
  unfold rNewer rFollow
  split <;> (try split) <;> exact ⟨rfl, rfl⟩
theorem newer_term (X : RN) (m : RM) : X.term ≤ (rNewer X m).term ∧ m.term ≤ (rNewer X m).term ∧ ((rNewer X m).term = X.term ∨ (rNewer X m).term = m.term) := by
  unfold rNewer
  split
  · rename_i h
    unfold rFollow
    rw [if_pos h]
    exact ⟨Int.le_of_lt h, Int.le_refl _, .inr rfl⟩
  · exact ⟨Int.le_refl _, by omega, .inl rfl⟩
theorem si_newer (h : SI k g i X) : SI k g i (rNewer X m) := by
  unfold rNewer
  split
  · exact h.follow
  · exact h
/-- Whatever message comes. -/
theorem does_step (I : GI k g) (h : SI k g i X) (hm : MI k g m) : Does k g i (rStepF X m) := by
  unfold rStepF
  split
  · exact .same I h
  rename_i hc
  obtain ⟨c1, c2, c3, c4, c5, c6, c7, c8, _, _⟩ := Decidable.not_not.1 hc
  split
  · exact does_askPre I h
  split
  · exact does_tellPre I h ⟨c3, c4⟩
  have h1 := si_newer (m := m) h
  have hw := newer_term X m
  have hn : (rNewer X m).n = X.n := (rNewer_same' X m).1
  have hid : (rNewer X m).id = X.id := (rNewer_same' X m).2
  split
  · split
    · exact does_told I h1
    · exact .same I h1
  have ht : m.term = (rNewer X m).term := by omega
  split
  · rename_i k3; exact does_askVote I h1 hm k3 ht ⟨c3, by rw [hn]; exact c4, by rw [hid]; exact c2⟩
  split
  · rename_i k4; exact does_tellVote I h1 hm k4 ht (by rw [hid]; exact c1) ⟨c3, by rw [hn]; exact c4⟩
  split
  · rename_i k5; exact does_append I h1 hm k5 ht
  · exact does_hears I h1 hm (by omega) ht ⟨c3, by rw [hn]; exact c4, by rw [hid]; exact c2⟩
end
end Go.Proofs.YtniojdaddolnfaaGreat

/-
  Layer 10 (group), plain: what is to be saved is what changed; a part of it alone keeps what always holds.
-/
namespace Go.Proofs.YtniojdaddolnfaaGreat

/-- What is to be saved is what changed. -/
structure SV (X Y : RN) : Prop where
  hard : Y.hard = false → Y.term = X.term ∧ Y.vote = X.vote
  none : Y.from_ = 0 → Y.log = X.log
  f0 : 0 ≤ Y.from_
  new : 0 < Y.from_ → Y.from_ ≤ X.log.length + 1 ∧ Y.from_ ≤ Y.log.length ∧ Y.log.take (Y.from_.toNat - 1) = X.log.take (Y.from_.toNat - 1)
section
variable {X Y Z : RN} {m : RM}
theorem SV.start (hf : X.from_ = 0) : SV X X := ⟨fun _ => ⟨rfl, rfl⟩, fun _ => rfl, by omega, fun h => by omega⟩
theorem SV.like (h : SV X Y) (h1 : Z.term = Y.term) (h2 : Z.vote = Y.vote) (h3 : Z.log = Y.log) (h4 : Z.hard = Y.hard) (h5 : Z.from_ = Y.from_) : SV X Z :=
  ⟨by rw [h4, h1, h2]; exact h.hard, by rw [h5, h3]; exact h.none, by rw [h5]; exact h.f0, by rw [h5, h3]; exact h.new⟩
theorem SV.set (h : SV X Y) (h3 : Z.log = Y.log) (h4 : Z.hard = true) (h5 : Z.from_ = Y.from_) : SV X Z :=
  ⟨fun e => absurd (h4.symm.trans e) (by decide), by rw [h5, h3]; exact h.none, by rw [h5]; exact h.f0, by rw [h5, h3]; exact h.new⟩
theorem sv_follow (h : SV X Y) {t l : Int} : SV X (rFollow Y t l) := by
  unfold rFollow
  split
  · exact h.set rfl rfl rfl
  · exact h.like rfl rfl rfl rfl rfl
theorem sv_agree (h : SV X Y) : SV X (rAgree Y) := by
  obtain ⟨h1, _, h3, h4, h5, h6, _⟩ := rAgree_keeps Y
  exact h.like h1 h4 h3 h5 h6
theorem sv_add (h : SV X Y) {data : ByteArray} : SV X (rAdd Y data).1 := by
  unfold rAdd
  split
  · exact h
  split
  · exact h
  · refine sv_agree ?_
    have hz : SV X (rDirty { Y with log := Y.log ++ [⟨Y.term, data⟩] } ((Y.log.length : Int) + 1)) := by
      unfold rDirty
      have f0 := h.f0
      by_cases e : Y.from_ = 0
      · have hl := h.none e
        refine ⟨h.hard, fun x => ?_, ?_, fun x => ?_⟩
        · have x : (if Y.from_ = 0 ∨ (Y.log.length : Int) + 1 < Y.from_ then (Y.log.length : Int) + 1 else Y.from_) = 0 := x
          rw [if_pos (.inl e)] at x; omega
        · show 0 ≤ (if Y.from_ = 0 ∨ (Y.log.length : Int) + 1 < Y.from_ then (Y.log.length : Int) + 1 else Y.from_)
          rw [if_pos (.inl e)]; omega
        · show (if Y.from_ = 0 ∨ (Y.log.length : Int) + 1 < Y.from_ then (Y.log.length : Int) + 1 else Y.from_) ≤ (X.log.length : Int) + 1 ∧ (if Y.from_ = 0 ∨ (Y.log.length : Int) + 1 < Y.from_ then (Y.log.length : Int) + 1 else Y.from_) ≤ ((Y.log ++ [(⟨Y.term, data⟩ : RE)]).length : Int) ∧ (Y.log ++ [(⟨Y.term, data⟩ : RE)]).take ((if Y.from_ = 0 ∨ (Y.log.length : Int) + 1 < Y.from_ then (Y.log.length : Int) + 1 else Y.from_).toNat - 1) = X.log.take ((if Y.from_ = 0 ∨ (Y.log.length : Int) + 1 < Y.from_ then (Y.log.length : Int) + 1 else Y.from_).toNat - 1)
          rw [if_pos (.inl e), List.length_append, List.length_singleton, show ((Y.log.length : Int) + 1).toNat - 1 = Y.log.length by omega, List.take_left, hl, List.take_length]
          exact ⟨by omega, by omega, rfl⟩
      · obtain ⟨n1, n2, n3⟩ := h.new (by omega)
        have hc : ¬ (Y.from_ = 0 ∨ (Y.log.length : Int) + 1 < Y.from_) := by omega
        refine ⟨h.hard, fun x => ?_, ?_, fun x => ?_⟩
        · have x : (if Y.from_ = 0 ∨ (Y.log.length : Int) + 1 < Y.from_ then (Y.log.length : Int) + 1 else Y.from_) = 0 := x
          rw [if_neg hc] at x; exact absurd x e
        · show 0 ≤ (if Y.from_ = 0 ∨ (Y.log.length : Int) + 1 < Y.from_ then (Y.log.length : Int) + 1 else Y.from_)
          rw [if_neg hc]; exact f0
        · show (if Y.from_ = 0 ∨ (Y.log.length : Int) + 1 < Y.from_ then (Y.log.length : Int) + 1 else Y.from_) ≤ (X.log.length : Int) + 1 ∧ (if Y.from_ = 0 ∨ (Y.log.length : Int) + 1 < Y.from_ then (Y.log.length : Int) + 1 else Y.from_) ≤ ((Y.log ++ [(⟨Y.term, data⟩ : RE)]).length : Int) ∧ (Y.log ++ [(⟨Y.term, data⟩ : RE)]).take ((if Y.from_ = 0 ∨ (Y.log.length : Int) + 1 < Y.from_ then (Y.log.length : Int) + 1 else Y.from_).toNat - 1) = X.log.take ((if Y.from_ = 0 ∨ (Y.log.length : Int) + 1 < Y.from_ then (Y.log.length : Int) + 1 else Y.from_).toNat - 1)
          rw [if_neg hc, List.length_append, List.length_singleton, List.take_append_of_le_length (by omega)]
          exact ⟨n1, by omega, n3⟩
    exact hz.like rfl rfl rfl rfl rfl
theorem sv_leads (h : SV X Y) : SV X (rLeads Y) := by
  have h1 : SV X (rAdd (rLead0 Y) ⟨#[]⟩).1 := sv_add (Y := rLead0 Y) (h.like rfl rfl rfl rfl rfl)
  unfold rLeads
  split
  · exact sv_follow h1
  · exact h1
theorem sv_stands (h : SV X Y) : SV X (rStands Y) := by
  have h1 : SV X (rStand0 Y) := h.set rfl rfl rfl
  unfold rStands
  split
  · exact sv_leads h1
  · exact h1.like rfl rfl rfl rfl rfl
theorem sv_asks (h : SV X Y) : SV X (rAsks Y) := by
  have h1 : SV X (rAsk0 Y) := h.like rfl rfl rfl rfl rfl
  unfold rAsks
  split
  · exact sv_stands h1
  · exact h1.like rfl rfl rfl rfl rfl
theorem sv_beat (h : SV X Y) : SV X (rBeat Y) := by
  unfold rBeat
  split
  · exact h.like rfl rfl rfl rfl rfl
  · exact h
theorem sv_tick (h : SV X Y) {draw : Int} : SV X (rTick Y draw) := by
  have h1 : SV X { Y with since := Y.since + 1 } := h.like rfl rfl rfl rfl rfl
  unfold rTick
  generalize (if 0 > draw then 0 else draw) % Y.elect = dr
  split
  · unfold rLead
    split
    · split
      · exact (sv_follow (Y := { Y with since := Y.since + 1, quiet := 0, heard := 0 }) (h.like rfl rfl rfl rfl rfl)).like rfl rfl rfl rfl rfl
      · exact sv_beat (h.like rfl rfl rfl rfl rfl)
    · exact sv_beat (h.like rfl rfl rfl rfl rfl)
  · split
    · exact sv_asks h1
    · exact h1
theorem sv_propose (h : SV X Y) {data : ByteArray} : SV X (rPropose Y data).1 := by
  unfold rPropose
  split
  · exact h
  split
  · exact h
  split <;> exact sv_add h
theorem sv_newer (h : SV X Y) : SV X (rNewer Y m) := by
  unfold rNewer
  split
  · exact sv_follow h
  · exact h
theorem putR_new {es ys : List RE} {index term : Int} (h : (putR es index term ys).2.1 > 0) : ∃ p : Nat, (putR es index term ys).2.1 = (p : Int) + 1 ∧ p ≤ es.length ∧ p + 1 ≤ (putR es index term ys).1.length ∧ (putR es index term ys).1.take p = es.take p ∧ (putR es index term ys).1.length ≤ 1024 ∧ ∀ e ∈ (putR es index term ys).1, e ∈ es ∨ e ∈ ys := by
  unfold putR at h ⊢
  by_cases c1 : (termAt es index).2 = false
  · rw [if_pos c1] at h; exact absurd h (show ¬ (0 : Int) > 0 by decide)
  by_cases c2 : (termAt es index).1 ≠ term
  · rw [if_neg c1, if_pos c2] at h; exact absurd h (show ¬ (0 : Int) > 0 by decide)
  by_cases c3 : fallsR term ys = true
  · rw [if_neg c1, if_neg c2, if_pos c3] at h; exact absurd h (show ¬ (0 : Int) > 0 by decide)
  have hle := knownR_le (es.drop index.toNat) ys
  generalize knownR (es.drop index.toNat) ys = n at *
  rw [if_neg c1, if_neg c2, if_neg c3] at h ⊢
  by_cases c4 : n = ys.length
  · rw [if_pos c4] at h; exact absurd h (show ¬ (0 : Int) > 0 by decide)
  by_cases c5 : index + ys.length > 1024
  · rw [if_neg c4, if_pos c5] at h; exact absurd h (show ¬ (0 : Int) > 0 by decide)
  rw [if_neg c4, if_neg c5]
  have hi : 0 ≤ index ∧ index ≤ es.length := by
    unfold termAt at c1
    by_cases e : index < 0 ∨ index > es.length
    · rw [if_pos e] at c1; exact absurd rfl c1
    · omega
  rw [List.length_drop] at hle
  refine ⟨index.toNat + n, by show index + (n : Int) + 1 = _; omega, by omega, ?_, ?_, ?_, fun e he => ?_⟩
  · show _ ≤ (es.take (index.toNat + n) ++ ys.drop n).length
    rw [List.length_append, List.length_take, List.length_drop]; omega
  · show (es.take (index.toNat + n) ++ ys.drop n).take (index.toNat + n) = _
    rw [List.take_append_of_le_length (by rw [List.length_take]; omega), List.take_take, Nat.min_self]
  · show (es.take (index.toNat + n) ++ ys.drop n).length ≤ _
    rw [List.length_append, List.length_take, List.length_drop]; omega
  · have he : e ∈ es.take (index.toNat + n) ++ ys.drop n := he
    rcases List.mem_append.1 he with he | he
    · exact .inl (List.mem_of_mem_take he)
    · exact .inr (List.mem_of_mem_drop he)
theorem putR_old {es ys : List RE} {index term : Int} (h : ¬ (putR es index term ys).2.1 > 0) : (putR es index term ys).1 = es := by
  unfold putR at h ⊢
  by_cases c1 : (termAt es index).2 = false
  · rw [if_pos c1]
  by_cases c2 : (termAt es index).1 ≠ term
  · rw [if_neg c1, if_pos c2]
  by_cases c3 : fallsR term ys = true
  · rw [if_neg c1, if_neg c2, if_pos c3]
  have hi : 0 ≤ index ∧ index ≤ es.length := by
    unfold termAt at c1
    by_cases e : index < 0 ∨ index > es.length
    · rw [if_pos e] at c1; exact absurd rfl c1
    · omega
  rw [if_neg c1, if_neg c2, if_neg c3] at h ⊢
  by_cases c4 : knownR (es.drop index.toNat) ys = ys.length
  · rw [if_pos c4]
  by_cases c5 : index + ys.length > 1024
  · rw [if_neg c4, if_pos c5]
  rw [if_neg c4, if_neg c5] at h
  exact absurd (show index + (knownR (es.drop index.toNat) ys : Int) + 1 > 0 by omega) h
theorem sv_put (h : SV X Y) (hf : Y.from_ = 0) : SV X (rPut Y m) := by
  have hl := h.none hf
  unfold rPut
  by_cases c : (putR Y.log m.index m.logTerm m.ents).2.1 > 0
  · rw [if_pos c]
    obtain ⟨p, h1, h2, h3, h4, _⟩ := putR_new c
    unfold rDirty
    generalize putR Y.log m.index m.logTerm m.ents = r at *
    refine ⟨h.hard, fun x => ?_, ?_, fun x => ?_⟩
    · have x : (if Y.from_ = 0 ∨ r.2.1 < Y.from_ then r.2.1 else Y.from_) = 0 := x
      rw [if_pos (.inl hf)] at x; omega
    · show 0 ≤ (if Y.from_ = 0 ∨ r.2.1 < Y.from_ then r.2.1 else Y.from_)
      rw [if_pos (.inl hf)]; omega
    · show (if Y.from_ = 0 ∨ r.2.1 < Y.from_ then r.2.1 else Y.from_) ≤ (X.log.length : Int) + 1 ∧ (if Y.from_ = 0 ∨ r.2.1 < Y.from_ then r.2.1 else Y.from_) ≤ (r.1.length : Int) ∧ r.1.take ((if Y.from_ = 0 ∨ r.2.1 < Y.from_ then r.2.1 else Y.from_).toNat - 1) = X.log.take ((if Y.from_ = 0 ∨ r.2.1 < Y.from_ then r.2.1 else Y.from_).toNat - 1)
      rw [if_pos (.inl hf), h1, show ((p : Int) + 1).toNat - 1 = p by omega, h4, hl]
      rw [hl] at h2
      exact ⟨by omega, by omega, rfl⟩
  · rw [if_neg c, putR_old c]
    exact h.like rfl rfl rfl rfl rfl
theorem app0_from (X : RN) (m : RM) : (rApp0 X m).from_ = X.from_ := by rw [rApp0_eq]
theorem sv_app0 (h : SV X Y) : SV X (rApp0 Y m) := by rw [rApp0_eq]; exact h.like rfl rfl rfl rfl rfl
theorem sv_append (h : SV X Y) (hf : Y.from_ = 0) : SV X (rAppend Y m) := by
  unfold rAppend
  split
  · exact h
  split
  · exact (sv_app0 h).like rfl rfl rfl rfl rfl
  split
  · exact (sv_app0 h).like rfl rfl rfl rfl rfl
  · exact (sv_put (sv_app0 h) (by rw [app0_from]; exact hf)).like rfl rfl rfl rfl rfl
theorem sv_hears (h : SV X Y) : SV X (rHears Y m) := by
  unfold rHears
  split
  · exact h
  split
  · have h1 : SV X (rAgree (rHear1 Y m.from_.toNat m.index)) := sv_agree (h.like rfl rfl rfl rfl rfl)
    split
    · exact h1.like rfl rfl rfl rfl rfl
    · exact h1
  split
  · exact h.like rfl rfl rfl rfl rfl
  · exact h.like rfl rfl rfl rfl rfl
theorem sv_askVote (h : SV X Y) : SV X (rAskVote Y m) := by
  unfold rAskVote
  by_cases hv : voteB Y m
  · rw [if_pos hv]
    by_cases hd : (Y.hard || (Y.vote != m.from_)) = true
    · exact h.set rfl hd rfl
    · rw [Bool.not_eq_true, Bool.or_eq_false_iff] at hd
      have e : Y.vote = m.from_ := by simpa using hd.2
      refine h.like rfl e.symm rfl ?_ rfl
      show (Y.hard || (Y.vote != m.from_)) = Y.hard
      rw [hd.1, hd.2]; rfl
  · rw [if_neg hv]; exact h.like rfl rfl rfl rfl rfl
theorem sv_tellVote (h : SV X Y) : SV X (rTellVote Y m) := by
  unfold rTellVote
  split
  · exact h
  split
  · exact sv_leads (h.like rfl rfl rfl rfl rfl)
  · exact h.like rfl rfl rfl rfl rfl
theorem sv_tellPre (h : SV X Y) : SV X (rTellPre Y m) := by
  unfold rTellPre
  split
  · exact sv_follow h
  split
  · split
    · exact sv_stands (h.like rfl rfl rfl rfl rfl)
    · exact h.like rfl rfl rfl rfl rfl
  · exact h
theorem newer_from (X : RN) (m : RM) : (rNewer X m).from_ = X.from_ ∧ (rNewer X m).log = X.log := by
  unfold rNewer rFollow
  split <;> (try split) <;> exact ⟨rfl, rfl⟩
theorem sv_step (hf : X.from_ = 0) : SV X (rStepF X m) := by
  have h := SV.start hf
  have h1 := sv_newer (m := m) h
  have hf1 : (rNewer X m).from_ = 0 := by rw [(newer_from X m).1]; exact hf
  unfold rStepF
  split
  · exact h
  split
  · exact h.like rfl rfl rfl rfl rfl
  split
  · exact sv_tellPre h
  split
  · split
    · exact h1.like rfl rfl rfl rfl rfl
    · exact h1
  split
  · exact sv_askVote h1
  split
  · exact sv_tellVote h1
  split
  · exact sv_append h1 hf1
  · exact sv_hears h1
end
/-! ## A part of it alone -/
/-- What a disk may tell of a node X that was to save Y, if a part of it alone was written. -/
def Part (X Y : RN) (T vt : Int) (l : List RE) : Prop :=
  (T = X.term ∧ vt = X.vote ∧ l = X.log) ∨ (Y.hard = true ∧ T = Y.term ∧ vt = Y.vote ∧ l = X.log) ∨ (0 < Y.from_ ∧ T = Y.term ∧ vt = Y.vote ∧ ∃ q, Y.from_.toNat ≤ q ∧ l = Y.log.take q)
section
variable {k : Nat} {g : GH} {i : Nat} {X Y : RN} {m : RM}
def Torn (k : Nat) (g : GH) (i : Nat) (X Y : RN) : Prop := ∃ g', GBy i g g' ∧ GI k g' ∧ ∀ T vt l, Part X Y T vt l → DI g' i T vt l
theorem torn_tv (I : GI k g) (h : NI k g i X) (hf : Y.from_ = 0) (hT : X.term < Y.term ∨ (Y.term = X.term ∧ (X.vote = -1 ∨ Y.vote = X.vote))) : Torn k g i X Y := by
  refine ⟨g, GBy.refl i g, I, fun T vt l hp => ?_⟩
  rcases hp with ⟨rfl, rfl, rfl⟩ | ⟨_, rfl, rfl, rfl⟩ | ⟨h1, _⟩
  · exact h.d
  · rcases hT with hT | ⟨hT, hv⟩
    · exact h.d.up hT
    · have d := h.d
      refine ⟨d.lm, d.mono, by rw [hT]; exact d.ter, by rw [hT]; exact d.kp, by rw [hT]; exact d.futV, by rw [hT]; exact d.futC, by rw [hT]; exact d.futA, by rw [hT]; exact d.futL, ?_, by rw [hT]; exact d.t0⟩
      rw [hT, h.v]
      rcases hv with hv | hv
      · exact .inl hv
      · exact .inr hv.symm
  · omega
theorem newer_tv (X : RN) (m : RM) : X.term < (rNewer X m).term ∨ ((rNewer X m).term = X.term ∧ (rNewer X m).vote = X.vote) := by
  unfold rNewer rFollow
  split
  · rename_i h
    first
    | exact .inl h
    | (rw [if_pos h]; exact .inl h)
  · exact .inr ⟨rfl, rfl⟩
theorem torn_leads (I : GI k g) (h : NI k g i X) (hh : X.hard = false) (hf : X.from_ = 0) (hr : X.role = 2) {v : Nat} (hm : mostB X v) (hv : v < 128) (hq : ∀ t, v.testBit t = true → t < k ∧ g.V t X.term = i ∧ (g.ll X.term = [] → Rec g X.term i t)) : Torn k g i X (rLeads { X with votes := v }) := by
  have c := h.cand hr
  obtain ⟨h0, hmaj⟩ := c.none I h hm hv hq
  have hter := lastT_ter h.d.ter h.d.t0
  unfold rLeads
  have ea : rAdd (rLead0 { X with votes := v }) ⟨#[]⟩ = if X.log.length ≥ 1024 then (rLead0 { X with votes := v }, 7) else (rAgree (rToAll (rDirty { rLead0 { X with votes := v } with log := X.log ++ [⟨X.term, ⟨#[]⟩⟩] } ((X.log.length : Int) + 1))), 0) := by
    unfold rAdd
    rw [if_neg (show ¬ (rLead0 { X with votes := v }).term < lastT (rLead0 { X with votes := v }).log from by show ¬ X.term < lastT X.log; omega)]
    rfl
  rw [ea]
  by_cases hl : X.log.length ≥ 1024
  · rw [if_pos hl, if_pos (show (7 : Int) ≠ 0 by decide)]
    refine torn_tv I h ?_ (.inr ?_)
    · unfold rFollow; split <;> exact hf
    · unfold rFollow
      rw [if_neg (by show ¬ X.term > X.term; omega)]
      exact ⟨rfl, .inr rfl⟩
  · rw [if_neg hl, if_neg (show ¬ (0 : Int) ≠ 0 by decide)]
    have I1 : GI k (g.setL i X.term (X.log ++ [⟨X.term, ⟨#[]⟩⟩])) := setL_new I h0 h.ik c.cl h.d.lm h.d.mono c.ter c.t1 rfl hmaj
    have hp : g.ll X.term <+: X.log ++ [⟨X.term, ⟨#[]⟩⟩] := by rw [h0]; exact List.nil_prefix
    have hd : g.ll X.term ≠ [] → g.ld X.term = i := fun x => absurd h0 x
    have G := setL_by hp hd
    refine ⟨_, G, I1, fun T vt l hpt => ?_⟩
    have d := h.d
    obtain ⟨e1, e2, e3, e4, e5, e6, _⟩ := rAgree_keeps (rToAll (rDirty { rLead0 { X with votes := v } with log := X.log ++ [⟨X.term, ⟨#[]⟩⟩] } ((X.log.length : Int) + 1)))
    have hL : ∀ t, X.term < t → (g.setL i X.term (X.log ++ [⟨X.term, ⟨#[]⟩⟩])).ll t ≠ [] → (g.setL i X.term (X.log ++ [⟨X.term, ⟨#[]⟩⟩])).ld t ≠ i := fun t ht hne => by
      have hne : (if t = X.term then _ else g.ll t) ≠ [] := hne
      show (if t = X.term then (i : Int) else g.ld t) ≠ i
      rw [if_neg (by omega)] at hne ⊢
      exact d.futL t ht hne
    have hfull : DI (g.setL i X.term (X.log ++ [⟨X.term, ⟨#[]⟩⟩])) i X.term X.vote (X.log ++ [⟨X.term, ⟨#[]⟩⟩]) :=
      ⟨setL_lm I d.lm hp hd rfl, mono_snoc d.mono d.ter rfl, ter_snoc d.ter rfl c.t1, (d.kp.grow I G.toGLe fun _ => rfl).more (List.prefix_append _ _), d.futV, d.futC, d.futA, hL, d.vot, d.t0⟩
    rcases hpt with ⟨rfl, rfl, rfl⟩ | ⟨h1, _⟩ | ⟨_, h2, h3, q, h4, h5⟩
    · exact ⟨d.lm.grow G.toGLe, d.mono, d.ter, d.kp.grow I G.toGLe fun _ => rfl, d.futV, d.futC, d.futA, hL, d.vot, d.t0⟩
    · rw [e5] at h1
      have h1 : X.hard = true := h1
      rw [hh] at h1; cases h1
    · rw [e1] at h2
      rw [e4] at h3
      rw [e6] at h4
      rw [e3] at h5
      have h4 : (if X.from_ = 0 ∨ (X.log.length : Int) + 1 < X.from_ then (X.log.length : Int) + 1 else X.from_).toNat ≤ q := h4
      rw [if_pos (.inl hf)] at h4
      have h5 : l = (X.log ++ [(⟨X.term, ⟨#[]⟩⟩ : RE)]).take q := h5
      rw [List.take_of_length_le (by rw [List.length_append, List.length_singleton]; omega)] at h5
      have h2 : T = X.term := h2
      have h3 : vt = X.vote := h3
      rw [h2, h3, h5]
      exact hfull
theorem popT_pow : ∀ x : Fin 7, popT 7 (2 ^ x.val) = 1 := by decide
theorem not_alone (h : NI k g i X) (hf : 0 ≤ m.from_ ∧ m.from_ < X.n ∧ m.from_ ≠ X.id) : ¬ mostB X (2 ^ X.id.toNat) := fun hm => by
  have h1 := h.n
  have h2 := h.id
  have h3 := h.ik
  have h4 := h.k7
  have e := popT_pow ⟨i, by omega⟩
  simp only at e
  unfold mostB at hm
  rw [show X.id.toNat = i by omega, e] at hm
  omega
theorem torn_step (I : GI k g) (h : NI k g i X) (ho : X.out = []) (hh : X.hard = false) (hf : X.from_ = 0) (hm : MI k g m) : Torn k g i X (rStepF X m) := by
  have same : ∀ {Y : RN}, Y.from_ = X.from_ → Y.term = X.term → Y.vote = X.vote → Torn k g i X Y := fun h1 h2 h3 => torn_tv I h (by rw [h1]; exact hf) (.inr ⟨h2, .inr h3⟩)
  unfold rStepF
  split
  · exact same rfl rfl rfl
  rename_i hc
  obtain ⟨c1, c2, c3, c4, c5, c6, c7, c8, _, _⟩ := Decidable.not_not.1 hc
  split
  · exact same rfl rfl rfl
  split
  · unfold rTellPre
    split
    · rename_i hy
      refine torn_tv I h ?_ (.inl ?_)
      · unfold rFollow; split <;> exact hf
      · unfold rFollow; rw [if_pos hy.2]; exact hy.2
    split
    · split
      · unfold rStands
        rw [if_neg (show ¬ mostB { X with votes := X.votes ||| 2 ^ m.from_.toNat } (2 ^ X.id.toNat) from fun hm => not_alone (X := X) (m := m) h ⟨c3, c4, c2⟩ hm)]
        exact torn_tv I h hf (.inl (by show X.term < X.term + 1; omega))
      · exact same rfl rfl rfl
    · exact same rfl rfl rfl
  have hw := newer_tv X m
  have hfr := newer_from X m
  have hnt := newer_term X m
  have S1 : NI k g i (rNewer X m) := (si_newer (m := m) ⟨h, by rw [ho]; intro m hm; cases hm⟩).ni
  have tv : ∀ {Y : RN}, Y.from_ = X.from_ → Y.term = (rNewer X m).term → ((rNewer X m).vote = -1 ∨ Y.vote = (rNewer X m).vote) → Torn k g i X Y := fun {Y} h1 h2 h3 => torn_tv I h (by rw [h1]; exact hf) (by
    rw [h2]
    rcases hw with x | ⟨x, y⟩
    · exact .inl x
    · rw [y] at h3; exact .inr ⟨x, h3⟩)
  split
  · split
    · exact tv hfr.1 rfl (.inr rfl)
    · exact tv hfr.1 rfl (.inr rfl)
  have ht : m.term = (rNewer X m).term := by omega
  split
  · unfold rAskVote
    by_cases hv : voteB (rNewer X m) m
    · rw [if_pos hv]
      refine tv hfr.1 rfl ?_
      rcases hv.1 with x | x
      · exact .inl x
      · exact .inr x.symm
    · rw [if_neg hv]; exact tv hfr.1 rfl (.inr rfl)
  split
  · rename_i k4
    unfold rTellVote
    split
    · exact tv hfr.1 rfl (.inr rfl)
    · rename_i hno
      have hr : (rNewer X m).role = 2 := Decidable.byContradiction fun e => hno (.inr e)
      have hZ : rNewer X m = X := by
        unfold rNewer rFollow at hr ⊢
        split
        · rename_i h1
          rw [if_pos h1, if_pos h1] at hr
          exact absurd hr (by decide : ¬ (0 : Int) = 2)
        · rfl
      rw [hZ] at hno hr ht ⊢
      have hy : m.yes = true := by cases e : m.yes; exact absurd (.inl e) hno; rfl
      obtain ⟨a, b, c, d, f⟩ := hm.2.1 k4 hy
      have hid := h.id
      have hn := h.n
      have hk7 := h.k7
      rw [ht] at d f
      rw [c1, hid] at d f
      have cd := h.cand hr
      have hq : ∀ t, (X.votes ||| 2 ^ m.from_.toNat).testBit t = true → t < k ∧ g.V t X.term = i ∧ (g.ll X.term = [] → Rec g X.term i t) := fun t htb => by
        rw [Nat.testBit_or, Bool.or_eq_true] at htb
        rcases htb with htb | htb
        · exact cd.vs t htb
        · rw [bit_self htb]
          exact ⟨by omega, d, f⟩
      have hv7 : X.votes ||| 2 ^ m.from_.toNat < 128 := or7 h.vb c3 (by omega)
      split
      · rename_i hmo
        exact torn_leads I h hh hf hr hmo hv7 hq
      · exact same rfl rfl rfl
  split
  · rename_i k5
    unfold rAppend
    have e0 := rApp0_eq (rNewer X m) m
    split
    · exact tv hfr.1 rfl (.inr rfl)
    split
    · rw [e0]; exact tv hfr.1 rfl (.inr rfl)
    split
    · rw [e0]; exact tv hfr.1 rfl (.inr rfl)
    · rename_i hr hc hok
      have A := app_core I S1 hm k5 ht (Decidable.not_not.1 hok)
      obtain ⟨p1, p2, _, _, _, _, _, _, _, p10⟩ := rPut_same (rApp0 (rNewer X m) m) m
      rw [e0] at p1 p2 p10 ⊢
      by_cases hch : (putR (rNewer X m).log m.index m.logTerm m.ents).2.1 > 0
      · obtain ⟨p, q1, q2, q3, q4, _, q5, q6, q7⟩ := A.new hch
        refine ⟨g, GBy.refl i g, I, fun T vt l hp => ?_⟩
        have hfrom : (rPut { rNewer X m with role := 0, leader := m.from_, since := 0 } m).from_ = (p : Int) + 1 := by
          unfold rPut rDirty
          rw [if_pos hch]
          show (if (rNewer X m).from_ = 0 ∨ _ < (rNewer X m).from_ then (putR (rNewer X m).log m.index m.logTerm m.ents).2.1 else _) = _
          rw [if_pos (.inl (by rw [hfr.1]; exact hf)), q1]
        rcases hp with ⟨rfl, rfl, rfl⟩ | ⟨_, h2, h3, h5⟩ | ⟨_, h2, h3, q, h4, h5⟩
        · exact h.d
        · have h2 : T = (rPut { rNewer X m with role := 0, leader := m.from_, since := 0 } m).term := h2
          have h3 : vt = (rPut { rNewer X m with role := 0, leader := m.from_, since := 0 } m).vote := h3
          rw [h2, h3, h5, p1, p2, ← hfr.2]
          exact S1.d
        · have h2 : T = (rPut { rNewer X m with role := 0, leader := m.from_, since := 0 } m).term := h2
          have h3 : vt = (rPut { rNewer X m with role := 0, leader := m.from_, since := 0 } m).vote := h3
          have h4 : (rPut { rNewer X m with role := 0, leader := m.from_, since := 0 } m).from_.toNat ≤ q := h4
          have h5 : l = (rPut { rNewer X m with role := 0, leader := m.from_, since := 0 } m).log.take q := h5
          rw [hfrom] at h4
          rw [h2, h3, h5, p1, p2, p10]
          show DI g i (rNewer X m).term (rNewer X m).vote ((putR (rNewer X m).log m.index m.logTerm m.ents).1.take q)
          rw [q5, List.take_take]
          exact q7 _ (by omega)
      · refine tv ?_ p1 (.inr p2)
        show (rPut { rNewer X m with role := 0, leader := m.from_, since := 0 } m).from_ = _
        unfold rPut
        rw [if_neg hch]
        exact hfr.1
  · unfold rHears
    split
    · exact tv hfr.1 rfl (.inr rfl)
    split
    · obtain ⟨e1, _, _, e4, _, e6, _⟩ := rAgree_keeps (rHear1 (rNewer X m) m.from_.toNat m.index)
      split
      · exact tv (e6.trans hfr.1) e1 (.inr e4)
      · exact tv (e6.trans hfr.1) e1 (.inr e4)
    split
    · exact tv hfr.1 rfl (.inr rfl)
    · exact tv hfr.1 rfl (.inr rfl)
end
end Go.Proofs.YtniojdaddolnfaaGreat

/- Printed by a program: each function of the translation as a predicate over the heap: what a call of it comes to. -/
set_option maxRecDepth 1000000
namespace Go.Proofs.YtniojdaddolnfaaGreat
open Go
theorem mixed_ : Tryz.prog.follows .mixedOrders = true := by kernel_rfl
theorem use_ {an : List (Nat × Slots)} {f : FuncId} {fn : Func} {args : List Value} {h : Heap} {ss : List Sh} {R : TH (Heap → Prop) ss} {S : Prop} (hf : Tryz.prog.funcs[f]? = some fn) (hb : codeOk fn args.length = true) (e : VF Tryz.prog an fn args h ss R = S) (hs : S) : CallR Tryz.prog f args h ss R := VF_sound (an := an) mixed_ hf hb (cast e.symm hs)

def C_gosem_cut_init  (h : Heap) (R : Heap → Prop) : Prop := CallR Tryz.prog 2 [] h [] R
def C_law10_GroupSafe (a0 : Int) (a1 : Sl) (h : Heap) (R : Bool → Heap → Prop) : Prop := CallR Tryz.prog 3 [.int .u8 a0, .slice a1.a a1.n a1.c] h [.one .bool] R
def C_law10_GroupKeeps (a0 : Int) (a1 : Sl) (h : Heap) (R : Bool → Heap → Prop) : Prop := CallR Tryz.prog 4 [.int .u8 a0, .slice a1.a a1.n a1.c] h [.one .bool] R
def C_law10_GroupMatches (a0 : Int) (a1 : Sl) (h : Heap) (R : Bool → Heap → Prop) : Prop := CallR Tryz.prog 5 [.int .u8 a0, .slice a1.a a1.n a1.c] h [.one .bool] R
def C_law10_GroupLater (a0 : Int) (a1 : Sl) (h : Heap) (R : Bool → Heap → Prop) : Prop := CallR Tryz.prog 6 [.int .u8 a0, .slice a1.a a1.n a1.c] h [.one .bool] R
def C_law10_GroupGoes (a0 : Int) (a1 : Sl) (h : Heap) (R : Bool → Heap → Prop) : Prop := CallR Tryz.prog 7 [.int .u8 a0, .slice a1.a a1.n a1.c] h [.one .bool] R
def C_law10_fixed  (h : Heap) (R : Bool → Heap → Prop) : Prop := CallR Tryz.prog 8 [] h [.one .bool] R
def C_law10_few (a0 : Sl) (h : Heap) (R : Bool → Heap → Prop) : Prop := CallR Tryz.prog 9 [.slice a0.a a0.n a0.c] h [.one .bool] R
def C_group_New (a0 : Int) (h : Heap) (R : Option Addr → Heap → Prop) : Prop := CallR Tryz.prog 10 [.int .i64 a0] h [.one .ptr] R
def C_group_Group_Do (a0 : Option Addr) (a1 : KL [.int .i64, .int .i64, .int .i64, .int .i64, .int .i64, .int .i64, .int .u8, .str]) (h : Heap) (R : Int → Heap → Prop) : Prop := CallR Tryz.prog 11 [.pointer a0, .agg ⟨KL.vals [.int .i64, .int .i64, .int .i64, .int .i64, .int .i64, .int .i64, .int .u8, .str] a1⟩] h [.one (.int .i64)] R
def C_group_Group_Node (a0 : Option Addr) (a1 : Int) (h : Heap) (R : Option Addr → Heap → Prop) : Prop := CallR Tryz.prog 12 [.pointer a0, .int .i64 a1] h [.one .ptr] R
def C_raft_Node_Role (a0 : Option Addr) (h : Heap) (R : Int → Heap → Prop) : Prop := CallR Tryz.prog 13 [.pointer a0] h [.one (.int .i64)] R
def C_raft_Node_Term (a0 : Option Addr) (h : Heap) (R : Int → Heap → Prop) : Prop := CallR Tryz.prog 14 [.pointer a0] h [.one (.int .i64)] R
def C_raft_Node_Committed (a0 : Option Addr) (a1 : Int) (h : Heap) (R : Sl → Heap → Prop) : Prop := CallR Tryz.prog 15 [.pointer a0, .int .i64 a1] h [.one .sl] R
def C_group_Group_Disk (a0 : Option Addr) (a1 : Int) (h : Heap) (R : Option Addr → Heap → Prop) : Prop := CallR Tryz.prog 16 [.pointer a0, .int .i64 a1] h [.one .ptr] R
def C_disk_Disk_Synced (a0 : Option Addr) (h : Heap) (R : Int → Heap → Prop) : Prop := CallR Tryz.prog 17 [.pointer a0] h [.one (.int .i64)] R
def C_disk_Disk_Len (a0 : Option Addr) (h : Heap) (R : Int → Heap → Prop) : Prop := CallR Tryz.prog 18 [.pointer a0] h [.one (.int .i64)] R
def C_hard_Recover (a0 : Option Addr) (h : Heap) (R : KL [.int .i64, .int .i64, .sl] → Int → Heap → Prop) : Prop := CallR Tryz.prog 19 [.pointer a0] h [.agg [.int .i64, .int .i64, .sl], .one (.int .i64)] R
def C_ref06_Same (a0 : KL [.int .i64, .int .i64, .sl]) (a1 : KL [.int .i64, .int .i64, .sl]) (h : Heap) (R : Bool → Heap → Prop) : Prop := CallR Tryz.prog 20 [.agg ⟨KL.vals [.int .i64, .int .i64, .sl] a0⟩, .agg ⟨KL.vals [.int .i64, .int .i64, .sl] a1⟩] h [.one .bool] R
def C_raft_Node_State (a0 : Option Addr) (h : Heap) (R : KL [.int .i64, .int .i64, .sl] → Heap → Prop) : Prop := CallR Tryz.prog 21 [.pointer a0] h [.agg [.int .i64, .int .i64, .sl]] R
def C_group_Group_Run (a0 : Option Addr) (a1 : Sl) (h : Heap) (R : Heap → Prop) : Prop := CallR Tryz.prog 22 [.pointer a0, .slice a1.a a1.n a1.c] h [] R
def C_group_Group_Settle (a0 : Option Addr) (a1 : Int) (h : Heap) (R : Int → Heap → Prop) : Prop := CallR Tryz.prog 23 [.pointer a0, .int .i64 a1] h [.one (.int .i64)] R
def C_group_Group_Leader (a0 : Option Addr) (h : Heap) (R : Int → Bool → Heap → Prop) : Prop := CallR Tryz.prog 24 [.pointer a0] h [.one (.int .i64), .one .bool] R
def C_raft_Node_Last (a0 : Option Addr) (h : Heap) (R : Int → Heap → Prop) : Prop := CallR Tryz.prog 25 [.pointer a0] h [.one (.int .i64)] R
def C_raft_Node_Commit (a0 : Option Addr) (h : Heap) (R : Int → Heap → Prop) : Prop := CallR Tryz.prog 26 [.pointer a0] h [.one (.int .i64)] R
def C_group_Group_Flight (a0 : Option Addr) (h : Heap) (R : Sl → Heap → Prop) : Prop := CallR Tryz.prog 27 [.pointer a0] h [.one .sl] R
def C_group_Group_Len (a0 : Option Addr) (h : Heap) (R : Int → Heap → Prop) : Prop := CallR Tryz.prog 28 [.pointer a0] h [.one (.int .i64)] R
def C_net_New_api_Message  (h : Heap) (R : Option Addr → Heap → Prop) : Prop := CallR Tryz.prog 29 [] h [.one .ptr] R
def C_raft_New (a0 : Int) (a1 : Int) (a2 : Int) (a3 : Int) (a4 : KL [.int .i64, .int .i64, .sl]) (h : Heap) (R : Option Addr → Int → Heap → Prop) : Prop := CallR Tryz.prog 30 [.int .i64 a0, .int .i64 a1, .int .i64 a2, .int .i64 a3, .agg ⟨KL.vals [.int .i64, .int .i64, .sl] a4⟩] h [.one .ptr, .one (.int .i64)] R
def C_disk_New  (h : Heap) (R : Option Addr → Heap → Prop) : Prop := CallR Tryz.prog 31 [] h [.one .ptr] R
def C_group_Group_node (a0 : Option Addr) (a1 : KL [.int .i64, .int .i64, .int .i64, .int .i64, .int .i64, .int .i64, .int .u8, .str]) (h : Heap) (R : Int → Heap → Prop) : Prop := CallR Tryz.prog 32 [.pointer a0, .agg ⟨KL.vals [.int .i64, .int .i64, .int .i64, .int .i64, .int .i64, .int .i64, .int .u8, .str] a1⟩] h [.one (.int .i64)] R
def C_group_Group_message (a0 : Option Addr) (a1 : KL [.int .i64, .int .i64, .int .i64, .int .i64, .int .i64, .int .i64, .int .u8, .str]) (h : Heap) (R : Int → Heap → Prop) : Prop := CallR Tryz.prog 33 [.pointer a0, .agg ⟨KL.vals [.int .i64, .int .i64, .int .i64, .int .i64, .int .i64, .int .i64, .int .u8, .str] a1⟩] h [.one (.int .i64)] R
def C_group_Group_is (a0 : Option Addr) (a1 : Int) (h : Heap) (R : Bool → Heap → Prop) : Prop := CallR Tryz.prog 34 [.pointer a0, .int .i64 a1] h [.one .bool] R
def C_log_Log_From (a0 : Option Addr) (a1 : Int) (a2 : Int) (h : Heap) (R : Sl → Heap → Prop) : Prop := CallR Tryz.prog 35 [.pointer a0, .int .i64 a1, .int .i64 a2] h [.one .sl] R
def C_wal_Recover (a0 : Option Addr) (h : Heap) (R : Sl → Int → Heap → Prop) : Prop := CallR Tryz.prog 36 [.pointer a0] h [.one .sl, .one (.int .i64)] R
def C_hard_Play (a0 : Sl) (h : Heap) (R : KL [.int .i64, .int .i64, .sl] → Int → Heap → Prop) : Prop := CallR Tryz.prog 37 [.slice a0.a a0.n a0.c] h [.agg [.int .i64, .int .i64, .sl], .one (.int .i64)] R
def C_log_Log_All (a0 : Option Addr) (h : Heap) (R : Sl → Heap → Prop) : Prop := CallR Tryz.prog 38 [.pointer a0] h [.one .sl] R
def C_net_Net_api_Message_Len (a0 : Option Addr) (h : Heap) (R : Int → Heap → Prop) : Prop := CallR Tryz.prog 39 [.pointer a0] h [.one (.int .i64)] R
def C_log_Log_Last (a0 : Option Addr) (h : Heap) (R : Int → Int → Heap → Prop) : Prop := CallR Tryz.prog 40 [.pointer a0] h [.one (.int .i64), .one (.int .i64)] R
def C_net_Net_api_Message_All (a0 : Option Addr) (h : Heap) (R : Sl → Heap → Prop) : Prop := CallR Tryz.prog 41 [.pointer a0] h [.one .sl] R
def C_raft_right (a0 : KL [.int .i64, .int .i64, .sl]) (h : Heap) (R : Bool → Heap → Prop) : Prop := CallR Tryz.prog 42 [.agg ⟨KL.vals [.int .i64, .int .i64, .sl] a0⟩] h [.one .bool] R
def C_log_New (a0 : Sl) (h : Heap) (R : Option Addr → Heap → Prop) : Prop := CallR Tryz.prog 43 [.slice a0.a a0.n a0.c] h [.one .ptr] R
def C_group_Group_restart (a0 : Option Addr) (a1 : Int) (h : Heap) (R : Int → Heap → Prop) : Prop := CallR Tryz.prog 44 [.pointer a0, .int .i64 a1] h [.one (.int .i64)] R
def C_group_Group_comes (a0 : Option Addr) (a1 : Int) (a2 : Value) (h : Heap) (R : Int → Heap → Prop) : Prop := CallR Tryz.prog 45 [.pointer a0, .int .i64 a1, a2] h [.one (.int .i64)] R
def C_group_Group_node_1 (a0 : Option Addr) (a1 : Option Addr) (h : Heap) (R : Int → Heap → Prop) : Prop := CallR Tryz.prog 46 [.pointer a0, .pointer a1] h [.one (.int .i64)] R
def C_raft_Node_Tick (a0 : Option Addr) (a1 : Int) (h : Heap) (R : Heap → Prop) : Prop := CallR Tryz.prog 47 [.pointer a0, .int .i64 a1] h [] R
def C_group_Group_node_2 (a0 : Option Addr) (a1 : Option Addr) (h : Heap) (R : Int → Heap → Prop) : Prop := CallR Tryz.prog 48 [.pointer a0, .pointer a1] h [.one (.int .i64)] R
def C_raft_Node_Propose (a0 : Option Addr) (a1 : ByteArray) (h : Heap) (R : Int → Int → Heap → Prop) : Prop := CallR Tryz.prog 49 [.pointer a0, .string a1] h [.one (.int .i64), .one (.int .i64)] R
def C_group_Group_fall (a0 : Option Addr) (a1 : Int) (a2 : KL [.int .i64, .int .i64, .int .i64, .int .i64, .int .i64, .int .i64, .int .u8, .str]) (h : Heap) (R : Heap → Prop) : Prop := CallR Tryz.prog 50 [.pointer a0, .int .i64 a1, .agg ⟨KL.vals [.int .i64, .int .i64, .int .i64, .int .i64, .int .i64, .int .i64, .int .u8, .str] a2⟩] h [] R
def C_net_Net_api_Message_Double (a0 : Option Addr) (a1 : Int) (h : Heap) (R : Int → Heap → Prop) : Prop := CallR Tryz.prog 51 [.pointer a0, .int .i64 a1] h [.one (.int .i64)] R
def C_net_Net_api_Message_Take (a0 : Option Addr) (a1 : Int) (h : Heap) (R : KL [.int .i64, .int .i64, .int .i64, .int .i64, .int .i64, .int .i64, .int .i64, .bool, .sl] → Int → Heap → Prop) : Prop := CallR Tryz.prog 52 [.pointer a0, .int .i64 a1] h [.agg [.int .i64, .int .i64, .int .i64, .int .i64, .int .i64, .int .i64, .int .i64, .bool, .sl], .one (.int .i64)] R
def C_group_Group_deliver (a0 : Option Addr) (a1 : Int) (h : Heap) (R : KL [.int .i64, .int .i64, .int .i64, .int .i64, .int .i64, .int .i64, .int .i64, .bool, .sl] → Int → Heap → Prop) : Prop := CallR Tryz.prog 53 [.pointer a0, .int .i64 a1] h [.agg [.int .i64, .int .i64, .int .i64, .int .i64, .int .i64, .int .i64, .int .i64, .bool, .sl], .one (.int .i64)] R
def C_group_Group_message_1 (a0 : Option Addr) (a1 : Option Addr) (h : Heap) (R : Int → Heap → Prop) : Prop := CallR Tryz.prog 54 [.pointer a0, .pointer a1] h [.one (.int .i64)] R
def C_raft_Node_Step (a0 : Option Addr) (a1 : KL [.int .i64, .int .i64, .int .i64, .int .i64, .int .i64, .int .i64, .int .i64, .bool, .sl]) (h : Heap) (R : Heap → Prop) : Prop := CallR Tryz.prog 55 [.pointer a0, .agg ⟨KL.vals [.int .i64, .int .i64, .int .i64, .int .i64, .int .i64, .int .i64, .int .i64, .bool, .sl] a1⟩] h [] R
def C_group_Group_write (a0 : Option Addr) (a1 : Int) (h : Heap) (R : Int → Heap → Prop) : Prop := CallR Tryz.prog 56 [.pointer a0, .int .i64 a1] h [.one (.int .i64)] R
def C_slices_Clone_api_Entry_api_Entry (a0 : Sl) (h : Heap) (R : Sl → Heap → Prop) : Prop := CallR Tryz.prog 57 [.slice a0.a a0.n a0.c] h [.one .sl] R
def C_wal_Read (a0 : Sl) (h : Heap) (R : Sl → Int → Int → Heap → Prop) : Prop := CallR Tryz.prog 58 [.slice a0.a a0.n a0.c] h [.one .sl, .one (.int .i64), .one (.int .i64)] R
def C_disk_Disk_Bytes (a0 : Option Addr) (h : Heap) (R : Sl → Heap → Prop) : Prop := CallR Tryz.prog 59 [.pointer a0] h [.one .sl] R
def C_disk_Disk_Cut (a0 : Option Addr) (a1 : Int) (h : Heap) (R : Int → Heap → Prop) : Prop := CallR Tryz.prog 60 [.pointer a0, .int .i64 a1] h [.one (.int .i64)] R
def C_word_Read (a0 : Sl) (h : Heap) (R : Option Addr → Heap → Prop) : Prop := CallR Tryz.prog 61 [.slice a0.a a0.n a0.c] h [.one .ptr] R
def C_hard_player_vote (a0 : Option Addr) (a1 : Option Addr) (h : Heap) (R : Heap → Prop) : Prop := CallR Tryz.prog 62 [.pointer a0, .pointer a1] h [] R
def C_hard_player_entry (a0 : Option Addr) (a1 : Option Addr) (h : Heap) (R : Heap → Prop) : Prop := CallR Tryz.prog 63 [.pointer a0, .pointer a1] h [] R
def C_word_Reader_Done (a0 : Option Addr) (h : Heap) (R : Bool → Heap → Prop) : Prop := CallR Tryz.prog 64 [.pointer a0] h [.one .bool] R
def C_hard_Right (a0 : KL [.int .i64, .int .i64, .sl]) (h : Heap) (R : Bool → Heap → Prop) : Prop := CallR Tryz.prog 65 [.agg ⟨KL.vals [.int .i64, .int .i64, .sl] a0⟩] h [.one .bool] R
def C_slices_Clone_api_Message_api_Message (a0 : Sl) (h : Heap) (R : Sl → Heap → Prop) : Prop := CallR Tryz.prog 66 [.slice a0.a a0.n a0.c] h [.one .sl] R
def C_disk_Disk_Sync (a0 : Option Addr) (h : Heap) (R : Int → Heap → Prop) : Prop := CallR Tryz.prog 67 [.pointer a0] h [.one (.int .i64)] R
def C_raft_Node_Out (a0 : Option Addr) (h : Heap) (R : Sl → Heap → Prop) : Prop := CallR Tryz.prog 68 [.pointer a0] h [.one .sl] R
def C_net_Net_api_Message_Send (a0 : Option Addr) (a1 : KL [.int .i64, .int .i64, .int .i64, .int .i64, .int .i64, .int .i64, .int .i64, .bool, .sl]) (h : Heap) (R : Int → Heap → Prop) : Prop := CallR Tryz.prog 69 [.pointer a0, .agg ⟨KL.vals [.int .i64, .int .i64, .int .i64, .int .i64, .int .i64, .int .i64, .int .i64, .bool, .sl] a1⟩] h [.one (.int .i64)] R
def C_raft_Node_lead (a0 : Option Addr) (h : Heap) (R : Heap → Prop) : Prop := CallR Tryz.prog 70 [.pointer a0] h [] R
def C_raft_Node_asks (a0 : Option Addr) (h : Heap) (R : Heap → Prop) : Prop := CallR Tryz.prog 71 [.pointer a0] h [] R
def C_raft_Node_add (a0 : Option Addr) (a1 : ByteArray) (h : Heap) (R : Int → Heap → Prop) : Prop := CallR Tryz.prog 72 [.pointer a0, .string a1] h [.one (.int .i64)] R
def C_disk_Disk_Crash (a0 : Option Addr) (a1 : Int) (a2 : Int) (a3 : Int) (h : Heap) (R : Int → Heap → Prop) : Prop := CallR Tryz.prog 73 [.pointer a0, .int .i64 a1, .int .i64 a2, .int .u8 a3] h [.one (.int .i64)] R
def C_net_Net_api_Message_at (a0 : Option Addr) (a1 : Int) (h : Heap) (R : Int → Heap → Prop) : Prop := CallR Tryz.prog 74 [.pointer a0, .int .i64 a1] h [.one (.int .i64)] R
def C_slices_Delete_api_Message_api_Message (a0 : Sl) (a1 : Int) (a2 : Int) (h : Heap) (R : Sl → Heap → Prop) : Prop := CallR Tryz.prog 75 [.slice a0.a a0.n a0.c, .int .i64 a1, .int .i64 a2] h [.one .sl] R
def C_raft_Node_counts (a0 : Option Addr) (a1 : KL [.int .i64, .int .i64, .int .i64, .int .i64, .int .i64, .int .i64, .int .i64, .bool, .sl]) (h : Heap) (R : Bool → Heap → Prop) : Prop := CallR Tryz.prog 76 [.pointer a0, .agg ⟨KL.vals [.int .i64, .int .i64, .int .i64, .int .i64, .int .i64, .int .i64, .int .i64, .bool, .sl] a1⟩] h [.one .bool] R
def C_raft_Node_askPre (a0 : Option Addr) (a1 : KL [.int .i64, .int .i64, .int .i64, .int .i64, .int .i64, .int .i64, .int .i64, .bool, .sl]) (h : Heap) (R : Heap → Prop) : Prop := CallR Tryz.prog 77 [.pointer a0, .agg ⟨KL.vals [.int .i64, .int .i64, .int .i64, .int .i64, .int .i64, .int .i64, .int .i64, .bool, .sl] a1⟩] h [] R
def C_raft_Node_tellPre (a0 : Option Addr) (a1 : KL [.int .i64, .int .i64, .int .i64, .int .i64, .int .i64, .int .i64, .int .i64, .bool, .sl]) (h : Heap) (R : Heap → Prop) : Prop := CallR Tryz.prog 78 [.pointer a0, .agg ⟨KL.vals [.int .i64, .int .i64, .int .i64, .int .i64, .int .i64, .int .i64, .int .i64, .bool, .sl] a1⟩] h [] R
def C_raft_Node_follow (a0 : Option Addr) (a1 : Int) (a2 : Int) (h : Heap) (R : Heap → Prop) : Prop := CallR Tryz.prog 79 [.pointer a0, .int .i64 a1, .int .i64 a2] h [] R
def C_raft_Node_told (a0 : Option Addr) (a1 : Int) (a2 : Bool) (a3 : Int) (h : Heap) (R : Heap → Prop) : Prop := CallR Tryz.prog 80 [.pointer a0, .int .i64 a1, .bool a2, .int .i64 a3] h [] R
def C_raft_Node_askVote (a0 : Option Addr) (a1 : KL [.int .i64, .int .i64, .int .i64, .int .i64, .int .i64, .int .i64, .int .i64, .bool, .sl]) (h : Heap) (R : Heap → Prop) : Prop := CallR Tryz.prog 81 [.pointer a0, .agg ⟨KL.vals [.int .i64, .int .i64, .int .i64, .int .i64, .int .i64, .int .i64, .int .i64, .bool, .sl] a1⟩] h [] R
def C_raft_Node_tellVote (a0 : Option Addr) (a1 : KL [.int .i64, .int .i64, .int .i64, .int .i64, .int .i64, .int .i64, .int .i64, .bool, .sl]) (h : Heap) (R : Heap → Prop) : Prop := CallR Tryz.prog 82 [.pointer a0, .agg ⟨KL.vals [.int .i64, .int .i64, .int .i64, .int .i64, .int .i64, .int .i64, .int .i64, .bool, .sl] a1⟩] h [] R
def C_raft_Node_append (a0 : Option Addr) (a1 : KL [.int .i64, .int .i64, .int .i64, .int .i64, .int .i64, .int .i64, .int .i64, .bool, .sl]) (h : Heap) (R : Heap → Prop) : Prop := CallR Tryz.prog 83 [.pointer a0, .agg ⟨KL.vals [.int .i64, .int .i64, .int .i64, .int .i64, .int .i64, .int .i64, .int .i64, .bool, .sl] a1⟩] h [] R
def C_raft_Node_hears (a0 : Option Addr) (a1 : KL [.int .i64, .int .i64, .int .i64, .int .i64, .int .i64, .int .i64, .int .i64, .bool, .sl]) (h : Heap) (R : Heap → Prop) : Prop := CallR Tryz.prog 84 [.pointer a0, .agg ⟨KL.vals [.int .i64, .int .i64, .int .i64, .int .i64, .int .i64, .int .i64, .int .i64, .bool, .sl] a1⟩] h [] R
def C_raft_Node_Save (a0 : Option Addr) (h : Heap) (R : KL [.bool, .int .i64, .int .i64, .int .i64, .sl] → Bool → Heap → Prop) : Prop := CallR Tryz.prog 85 [.pointer a0] h [.agg [.bool, .int .i64, .int .i64, .int .i64, .sl], .one .bool] R
def C_hard_Write (a0 : Option Addr) (a1 : KL [.bool, .int .i64, .int .i64, .int .i64, .sl]) (h : Heap) (R : Int → Heap → Prop) : Prop := CallR Tryz.prog 86 [.pointer a0, .agg ⟨KL.vals [.bool, .int .i64, .int .i64, .int .i64, .sl] a1⟩] h [.one (.int .i64)] R
def C_frame_All (a0 : Sl) (h : Heap) (R : Sl → Int → Int → Heap → Prop) : Prop := CallR Tryz.prog 87 [.slice a0.a a0.n a0.c] h [.one .sl, .one (.int .i64), .one (.int .i64)] R
def C_frame_Size (a0 : Int) (h : Heap) (R : Int → Heap → Prop) : Prop := CallR Tryz.prog 88 [.int .i64 a0] h [.one (.int .i64)] R
def C_bytes_Clone (a0 : Sl) (h : Heap) (R : Sl → Heap → Prop) : Prop := CallR Tryz.prog 89 [.slice a0.a a0.n a0.c] h [.one .sl] R
def C_word_Reader_Int (a0 : Option Addr) (a1 : Int) (a2 : Int) (h : Heap) (R : Int → Heap → Prop) : Prop := CallR Tryz.prog 90 [.pointer a0, .int .i64 a1, .int .i64 a2] h [.one (.int .i64)] R
def C_word_Reader_Text (a0 : Option Addr) (a1 : Int) (h : Heap) (R : ByteArray → Heap → Prop) : Prop := CallR Tryz.prog 91 [.pointer a0, .int .i64 a1] h [.one .str] R
def C_word_Reader_Fail (a0 : Option Addr) (h : Heap) (R : Bool → Heap → Prop) : Prop := CallR Tryz.prog 92 [.pointer a0] h [.one .bool] R
def C_raft_Node_most (a0 : Option Addr) (a1 : Int) (h : Heap) (R : Bool → Heap → Prop) : Prop := CallR Tryz.prog 93 [.pointer a0, .int .u64 a1] h [.one .bool] R
def C_raft_Node_toAll (a0 : Option Addr) (h : Heap) (R : Heap → Prop) : Prop := CallR Tryz.prog 94 [.pointer a0] h [] R
def C_raft_Node_stands (a0 : Option Addr) (h : Heap) (R : Heap → Prop) : Prop := CallR Tryz.prog 95 [.pointer a0] h [] R
def C_raft_Node_all (a0 : Option Addr) (a1 : KL [.int .i64, .int .i64, .int .i64, .int .i64, .int .i64, .int .i64, .int .i64, .bool, .sl]) (h : Heap) (R : Heap → Prop) : Prop := CallR Tryz.prog 96 [.pointer a0, .agg ⟨KL.vals [.int .i64, .int .i64, .int .i64, .int .i64, .int .i64, .int .i64, .int .i64, .bool, .sl] a1⟩] h [] R
def C_log_Log_Add (a0 : Option Addr) (a1 : KL [.int .i64, .str]) (h : Heap) (R : Int → Heap → Prop) : Prop := CallR Tryz.prog 97 [.pointer a0, .agg ⟨KL.vals [.int .i64, .str] a1⟩] h [.one (.int .i64)] R
def C_raft_Node_dirty (a0 : Option Addr) (a1 : Int) (h : Heap) (R : Heap → Prop) : Prop := CallR Tryz.prog 98 [.pointer a0, .int .i64 a1] h [] R
def C_raft_Node_agree (a0 : Option Addr) (h : Heap) (R : Heap → Prop) : Prop := CallR Tryz.prog 99 [.pointer a0] h [] R
def C_raft_Node_counts_1 (a0 : KL [.int .i64, .str]) (a1 : Option Addr) (h : Heap) (R : Bool → Heap → Prop) : Prop := CallR Tryz.prog 100 [.agg ⟨KL.vals [.int .i64, .str] a0⟩, .pointer a1] h [.one .bool] R
def C_slices_ContainsFunc_api_Entry_api_Entry (a0 : Sl) (a1 : Value) (h : Heap) (R : Bool → Heap → Prop) : Prop := CallR Tryz.prog 101 [.slice a0.a a0.n a0.c, a1] h [.one .bool] R
def C_log_Log_Younger (a0 : Option Addr) (a1 : Int) (a2 : Int) (h : Heap) (R : Bool → Heap → Prop) : Prop := CallR Tryz.prog 102 [.pointer a0, .int .i64 a1, .int .i64 a2] h [.one .bool] R
def C_raft_Node_send (a0 : Option Addr) (a1 : Int) (a2 : KL [.int .i64, .int .i64, .int .i64, .int .i64, .int .i64, .int .i64, .int .i64, .bool, .sl]) (h : Heap) (R : Heap → Prop) : Prop := CallR Tryz.prog 103 [.pointer a0, .int .i64 a1, .agg ⟨KL.vals [.int .i64, .int .i64, .int .i64, .int .i64, .int .i64, .int .i64, .int .i64, .bool, .sl] a2⟩] h [] R
def C_raft_Node_leads (a0 : Option Addr) (h : Heap) (R : Heap → Prop) : Prop := CallR Tryz.prog 104 [.pointer a0] h [] R
def C_log_Log_Put (a0 : Option Addr) (a1 : Int) (a2 : Int) (a3 : Sl) (h : Heap) (R : Int → Int → Heap → Prop) : Prop := CallR Tryz.prog 105 [.pointer a0, .int .i64 a1, .int .i64 a2, .slice a3.a a3.n a3.c] h [.one (.int .i64), .one (.int .i64)] R
def C_raft_Node_to (a0 : Option Addr) (a1 : Int) (h : Heap) (R : Heap → Prop) : Prop := CallR Tryz.prog 106 [.pointer a0, .int .i64 a1] h [] R
def C_hard_Records (a0 : KL [.bool, .int .i64, .int .i64, .int .i64, .sl]) (h : Heap) (R : Sl → Heap → Prop) : Prop := CallR Tryz.prog 107 [.agg ⟨KL.vals [.bool, .int .i64, .int .i64, .int .i64, .sl] a0⟩] h [.one .sl] R
def C_wal_Append (a0 : Option Addr) (a1 : KL [.int .u8, .sl]) (h : Heap) (R : Int → Heap → Prop) : Prop := CallR Tryz.prog 108 [.pointer a0, .agg ⟨KL.vals [.int .u8, .sl] a1⟩] h [.one (.int .i64)] R
def C_frame_Take (a0 : Sl) (h : Heap) (R : Sl → Int → Int → Heap → Prop) : Prop := CallR Tryz.prog 109 [.slice a0.a a0.n a0.c] h [.one .sl, .one (.int .i64), .one (.int .i64)] R
def C_word_Reader_part (a0 : Option Addr) (a1 : Int) (h : Heap) (R : Sl → Heap → Prop) : Prop := CallR Tryz.prog 110 [.pointer a0, .int .i64 a1] h [.one .sl] R
def C_word_Reader_fail (a0 : Option Addr) (h : Heap) (R : Heap → Prop) : Prop := CallR Tryz.prog 111 [.pointer a0] h [] R
def C_math_bits_OnesCount (a0 : Int) (h : Heap) (R : Int → Heap → Prop) : Prop := CallR Tryz.prog 112 [.int .u64 a0] h [.one (.int .i64)] R
def C_log_Log_Term (a0 : Option Addr) (a1 : Int) (h : Heap) (R : Int → Bool → Heap → Prop) : Prop := CallR Tryz.prog 113 [.pointer a0, .int .i64 a1] h [.one (.int .i64), .one .bool] R
def C_slices_IndexFunc_api_Entry_api_Entry (a0 : Sl) (a1 : Value) (h : Heap) (R : Int → Heap → Prop) : Prop := CallR Tryz.prog 114 [.slice a0.a a0.n a0.c, a1] h [.one (.int .i64)] R
def C_log_falls (a0 : Int) (a1 : Sl) (h : Heap) (R : Bool → Heap → Prop) : Prop := CallR Tryz.prog 115 [.int .i64 a0, .slice a1.a a1.n a1.c] h [.one .bool] R
def C_log_Log_known (a0 : Option Addr) (a1 : Int) (a2 : Sl) (h : Heap) (R : Int → Heap → Prop) : Prop := CallR Tryz.prog 116 [.pointer a0, .int .i64 a1, .slice a2.a a2.n a2.c] h [.one (.int .i64)] R
def C_word_Int (a0 : Sl) (a1 : Int) (h : Heap) (R : Sl → Heap → Prop) : Prop := CallR Tryz.prog 117 [.slice a0.a a0.n a0.c, .int .i64 a1] h [.one .sl] R
def C_word_Text (a0 : Sl) (a1 : ByteArray) (h : Heap) (R : Sl → Heap → Prop) : Prop := CallR Tryz.prog 118 [.slice a0.a a0.n a0.c, .string a1] h [.one .sl] R
def C_wal_Bytes (a0 : KL [.int .u8, .sl]) (h : Heap) (R : Sl → Int → Heap → Prop) : Prop := CallR Tryz.prog 119 [.agg ⟨KL.vals [.int .u8, .sl] a0⟩] h [.one .sl, .one (.int .i64)] R
def C_disk_Disk_Write (a0 : Option Addr) (a1 : Sl) (h : Heap) (R : Int → Heap → Prop) : Prop := CallR Tryz.prog 120 [.pointer a0, .slice a1.a a1.n a1.c] h [.one (.int .i64)] R
def C_crc_Check (a0 : Sl) (a1 : Sl) (h : Heap) (R : Bool → Heap → Prop) : Prop := CallR Tryz.prog 121 [.slice a0.a a0.n a0.c, .slice a1.a a1.n a1.c] h [.one .bool] R
def C_math_bits_OnesCount32 (a0 : Int) (h : Heap) (R : Int → Heap → Prop) : Prop := CallR Tryz.prog 122 [.int .u32 a0] h [.one (.int .i64)] R
def C_math_bits_OnesCount64 (a0 : Int) (h : Heap) (R : Int → Heap → Prop) : Prop := CallR Tryz.prog 123 [.int .u64 a0] h [.one (.int .i64)] R
def C_frame_Put (a0 : Sl) (a1 : Sl) (h : Heap) (R : Sl → Int → Heap → Prop) : Prop := CallR Tryz.prog 124 [.slice a0.a a0.n a0.c, .slice a1.a a1.n a1.c] h [.one .sl, .one (.int .i64)] R
def C_bytes_Equal (a0 : Sl) (a1 : Sl) (h : Heap) (R : Bool → Heap → Prop) : Prop := CallR Tryz.prog 125 [.slice a0.a a0.n a0.c, .slice a1.a a1.n a1.c] h [.one .bool] R
def C_crc_Bytes (a0 : Int) (h : Heap) (R : Sl → Heap → Prop) : Prop := CallR Tryz.prog 126 [.int .u32 a0] h [.one .sl] R
def C_crc_Of (a0 : Sl) (h : Heap) (R : Int → Heap → Prop) : Prop := CallR Tryz.prog 127 [.slice a0.a a0.n a0.c] h [.one (.int .u32)] R
def C_crc_New  (h : Heap) (R : Option Addr → Heap → Prop) : Prop := CallR Tryz.prog 128 [] h [.one .ptr] R
def C_crc_Table_Sum (a0 : Option Addr) (a1 : Sl) (h : Heap) (R : Int → Heap → Prop) : Prop := CallR Tryz.prog 129 [.pointer a0, .slice a1.a a1.n a1.c] h [.one (.int .u32)] R
def C_crc_Table_Add (a0 : Option Addr) (a1 : Int) (a2 : Sl) (h : Heap) (R : Int → Heap → Prop) : Prop := CallR Tryz.prog 130 [.pointer a0, .int .u32 a1, .slice a2.a a2.n a2.c] h [.one (.int .u32)] R
def C_sync_Once_Do (a0 : Option Addr) (a1 : Value) (h : Heap) (R : Heap → Prop) : Prop := CallR Tryz.prog 131 [.pointer a0, a1] h [] R
def C_crc_Table_fill (a0 : Option Addr) (h : Heap) (R : Heap → Prop) : Prop := CallR Tryz.prog 132 [.pointer a0] h [] R
def C_sync_atomic_Bool_Load (a0 : Option Addr) (h : Heap) (R : Bool → Heap → Prop) : Prop := CallR Tryz.prog 133 [.pointer a0] h [.one .bool] R
def C_sync_Once_doSlow (a0 : Option Addr) (a1 : Value) (h : Heap) (R : Heap → Prop) : Prop := CallR Tryz.prog 134 [.pointer a0, a1] h [] R
def C_sync_Mutex_Lock (a0 : Option Addr) (h : Heap) (R : Heap → Prop) : Prop := CallR Tryz.prog 136 [.pointer a0] h [] R
def C_sync_Mutex_Unlock (a0 : Option Addr) (h : Heap) (R : Heap → Prop) : Prop := CallR Tryz.prog 137 [.pointer a0] h [] R
def C_sync_atomic_Bool_Store (a0 : Option Addr) (a1 : Bool) (h : Heap) (R : Heap → Prop) : Prop := CallR Tryz.prog 138 [.pointer a0, .bool a1] h [] R
def C_internal_sync_Mutex_Lock (a0 : Option Addr) (h : Heap) (R : Heap → Prop) : Prop := CallR Tryz.prog 139 [.pointer a0] h [] R
def C_internal_sync_Mutex_Unlock (a0 : Option Addr) (h : Heap) (R : Heap → Prop) : Prop := CallR Tryz.prog 140 [.pointer a0] h [] R
def C_sync_atomic_b32 (a0 : Bool) (h : Heap) (R : Int → Heap → Prop) : Prop := CallR Tryz.prog 142 [.bool a0] h [.one (.int .u32)] R
def C_internal_sync_Mutex_lockSlow (a0 : Option Addr) (h : Heap) (R : Heap → Prop) : Prop := CallR Tryz.prog 147 [.pointer a0] h [] R
def C_internal_sync_Mutex_unlockSlow (a0 : Option Addr) (a1 : Int) (h : Heap) (R : Heap → Prop) : Prop := CallR Tryz.prog 150 [.pointer a0, .int .i32 a1] h [] R
end Go.Proofs.YtniojdaddolnfaaGreat

/- Printed by a program: what each function asks of the heap, that this is the reading of its code, and what follows for a call. -/
set_option maxRecDepth 1000000
namespace Go.Proofs.YtniojdaddolnfaaGreat
open Go

/-- (*log.Log).From -/
def S_log_Log_From (l : Option Addr) (index : Int) (most : Int) (h : Heap) (R : Sl → Heap → Prop) : Prop :=
  C_log_Log_Last l h fun (r : Int) (r1 : Int) h_ =>
  Let (if 1 > index then 1 else index : Int) fun index1 =>
  Join [.one .bool] (fun _ (x22 : Bool) h_1 =>
    (bif x22 then
      R ⟨none, 0, 0⟩ h_1
    else
      Nn l fun p =>
      Ld .sl h_1 p fun (l1 : Sl) =>
      Cut Tryz.prog 37 l1 (some (.int .i64 (IntKind.i64.wrap (index1 - 1)))) (some (.int .i64 (IntKind.i64.wrap ((IntKind.i64.wrap (index1 - 1)) + (if (IntKind.i64.wrap ((IntKind.i64.wrap (r - index1)) + 1)) < most then IntKind.i64.wrap ((IntKind.i64.wrap (r - index1)) + 1) else most))))) none fun s =>
      C_slices_Clone_api_Entry_api_Entry s h_1 fun (r2 : Sl) h_2 =>
      R r2 h_2
    )
    ) fun J =>
  (bif decide (index1 > r) then
    J true h_
  else
    J (decide (most < 1)) h_
  )
theorem E_log_Log_From (l : Option Addr) (index : Int) (most : Int) (h : Heap) (R : Sl → Heap → Prop) :
    VF Tryz.prog [(60, [(22, .one .bool)])] Tryz.f35 [.pointer l, .int .i64 index, .int .i64 most] h [.one .sl] R = S_log_Log_From l index most h R := by kernel_rfl
theorem A_log_Log_From {l : Option Addr} {index : Int} {most : Int} {h : Heap} {R : Sl → Heap → Prop} (hs : S_log_Log_From l index most h R) : C_log_Log_From l index most h R :=
  use_ Tryz.func35 (by kernel_rfl) (E_log_Log_From l index most h R) hs

/-- (*log.Log).All -/
def S_log_Log_All (l : Option Addr) (h : Heap) (R : Sl → Heap → Prop) : Prop :=
  (bif l.isNone then
    R ⟨none, 0, 0⟩ h
  else
    Nn l fun p =>
    Ld .sl h p fun (l1 : Sl) =>
    C_slices_Clone_api_Entry_api_Entry l1 h fun (r : Sl) h_ =>
    R r h_
  )
theorem E_log_Log_All (l : Option Addr) (h : Heap) (R : Sl → Heap → Prop) :
    VF Tryz.prog [] Tryz.f38 [.pointer l] h [.one .sl] R = S_log_Log_All l h R := by kernel_rfl
theorem A_log_Log_All {l : Option Addr} {h : Heap} {R : Sl → Heap → Prop} (hs : S_log_Log_All l h R) : C_log_Log_All l h R :=
  use_ Tryz.func38 (by kernel_rfl) (E_log_Log_All l h R) hs

/-- (*log.Log).Last -/
def S_log_Log_Last (l : Option Addr) (h : Heap) (R : Int → Int → Heap → Prop) : Prop :=
  Join [.one .bool] (fun _ (x14 : Bool) h_ =>
    (bif x14 then
      R 0 0 h_
    else
      Nn l fun p =>
      Ld .sl h_ p fun (l1 : Sl) =>
      Let ((l1.n : Int) : Int) fun n =>
      Nn l fun p1 =>
      Ld .sl h_ p1 fun (l2 : Sl) =>
      Ix l2 (IntKind.i64.wrap (n - 1)) 2 fun e =>
      Ld (.int .i64) h_ e fun (Term : Int) =>
      R n Term h_
    )
    ) fun J =>
  (bif l.isNone then
    J true h
  else
    Nn l fun p2 =>
    Ld .sl h p2 fun (l3 : Sl) =>
    J ((l3.n : Int) == 0) h
  )
theorem E_log_Log_Last (l : Option Addr) (h : Heap) (R : Int → Int → Heap → Prop) :
    VF Tryz.prog [(12, [(14, .one .bool)])] Tryz.f40 [.pointer l] h [.one (.int .i64), .one (.int .i64)] R = S_log_Log_Last l h R := by kernel_rfl
theorem A_log_Log_Last {l : Option Addr} {h : Heap} {R : Int → Int → Heap → Prop} (hs : S_log_Log_Last l h R) : C_log_Log_Last l h R :=
  use_ Tryz.func40 (by kernel_rfl) (E_log_Log_Last l h R) hs

/-- log.New -/
def S_log_New (l : Sl) (h : Heap) (R : Option Addr → Heap → Prop) : Prop :=
  C_slices_Clone_api_Entry_api_Entry l h fun (r : Sl) h_ =>
  Alloc h_ (.cells #[.slice r.a r.n r.c] 101) fun p h_1 =>
  R (some p) h_1
theorem E_log_New (l : Sl) (h : Heap) (R : Option Addr → Heap → Prop) :
    VF Tryz.prog [] Tryz.f43 [.slice l.a l.n l.c] h [.one .ptr] R = S_log_New l h R := by kernel_rfl
theorem A_log_New {l : Sl} {h : Heap} {R : Option Addr → Heap → Prop} (hs : S_log_New l h R) : C_log_New l h R :=
  use_ Tryz.func43 (by kernel_rfl) (E_log_New l h R) hs

/-- slices.Clone[[]api.Entry,api.Entry] -/
def S_slices_Clone_api_Entry_api_Entry (s : Sl) (h : Heap) (R : Sl → Heap → Prop) : Prop :=
  (bif s.a.isNone then
    R ⟨none, 0, 0⟩ h
  else
    Alloc h (.cells #[] 40) fun b h_ =>
    App Tryz.prog 37 37 ⟨some b, 0, 0⟩ s h_ fun s1 h_1 =>
    R s1 h_1
  )
theorem E_slices_Clone_api_Entry_api_Entry (s : Sl) (h : Heap) (R : Sl → Heap → Prop) :
    VF Tryz.prog [] Tryz.f57 [.slice s.a s.n s.c] h [.one .sl] R = S_slices_Clone_api_Entry_api_Entry s h R := by kernel_rfl
theorem A_slices_Clone_api_Entry_api_Entry {s : Sl} {h : Heap} {R : Sl → Heap → Prop} (hs : S_slices_Clone_api_Entry_api_Entry s h R) : C_slices_Clone_api_Entry_api_Entry s h R :=
  use_ Tryz.func57 (by kernel_rfl) (E_slices_Clone_api_Entry_api_Entry s h R) hs

/-- (*log.Log).Add -/
def S_log_Log_Add (l : Option Addr) (e : KL [.int .i64, .str]) (h : Heap) (R : Int → Heap → Prop) : Prop :=
  Alloc h (.cells #[.int .i64 e.1, .string e.2.1] 40) fun e1 h_ =>
  C_log_Log_Last l h_ fun (r : Int) (r1 : Int) h_1 =>
  (bif l.isNone then
    R 1 h_1
  else
    Ld (.int .i64) h_1 e1 fun (Term : Int) =>
    (bif decide (Term < r1) then
      R 5 h_1
    else
      (bif decide (r ≥ 1024) then
        R 7 h_1
      else
        Nn l fun p =>
        Ld .sl h_1 p fun (l1 : Sl) =>
        Ld (.int .i64) h_1 e1 fun (x_Term : Int) =>
        Ld .str h_1 (e1.add 1) fun (x_Data : ByteArray) =>
        Alloc h_1 (.cells #[.int .i64 x_Term, .string x_Data] 40) fun b h_2 =>
        (Ld .sl h_2 p fun (l2 : Sl) => (.slice l2.a l2.n l2.c : Value) = .slice l1.a l1.n l1.c) ∧
        App Tryz.prog 37 37 l1 ⟨some b, 1, 1⟩ h_2 fun s h_3 =>
        Nn l fun p1 =>
        St h_3 p1 (.slice s.a s.n s.c) fun h_4 =>
        R 0 h_4
      )
    )
  )
theorem E_log_Log_Add (l : Option Addr) (e : KL [.int .i64, .str]) (h : Heap) (R : Int → Heap → Prop) :
    VF Tryz.prog [] Tryz.f97 [.pointer l, .agg ⟨KL.vals [.int .i64, .str] e⟩] h [.one (.int .i64)] R = S_log_Log_Add l e h R := by kernel_rfl
theorem A_log_Log_Add {l : Option Addr} {e : KL [.int .i64, .str]} {h : Heap} {R : Int → Heap → Prop} (hs : S_log_Log_Add l e h R) : C_log_Log_Add l e h R :=
  use_ Tryz.func97 (by kernel_rfl) (E_log_Log_Add l e h R) hs

/-- (*log.Log).Younger -/
def S_log_Log_Younger (l : Option Addr) (index : Int) (term : Int) (h : Heap) (R : Bool → Heap → Prop) : Prop :=
  C_log_Log_Last l h fun (r : Int) (r1 : Int) h_ =>
  (bif !l.isNone then
    (bif decide (term > r1) then
      R true h_
    else
      (bif term == r1 then
        R (decide (index ≥ r)) h_
      else
        R false h_
      )
    )
  else
    R false h_
  )
theorem E_log_Log_Younger (l : Option Addr) (index : Int) (term : Int) (h : Heap) (R : Bool → Heap → Prop) :
    VF Tryz.prog [] Tryz.f102 [.pointer l, .int .i64 index, .int .i64 term] h [.one .bool] R = S_log_Log_Younger l index term h R := by kernel_rfl
theorem A_log_Log_Younger {l : Option Addr} {index : Int} {term : Int} {h : Heap} {R : Bool → Heap → Prop} (hs : S_log_Log_Younger l index term h R) : C_log_Log_Younger l index term h R :=
  use_ Tryz.func102 (by kernel_rfl) (E_log_Log_Younger l index term h R) hs

/-- (*log.Log).Put -/
def S_log_Log_Put (l : Option Addr) (index : Int) (term : Int) (entries : Sl) (h : Heap) (R : Int → Int → Heap → Prop) : Prop :=
  (bif l.isNone then
    R 0 1 h
  else
    C_log_Log_Term l index h fun (r : Int) (r1 : Bool) h_ =>
    (bif !r1 then
      R 0 6 h_
    else
      (bif r != term then
        R 0 8 h_
      else
        C_log_falls term entries h_ fun (r2 : Bool) h_1 =>
        (bif r2 then
          R 0 5 h_1
        else
          C_log_Log_known l index entries h_1 fun (r3 : Int) h_2 =>
          (bif r3 == (entries.n : Int) then
            R 0 0 h_2
          else
            (bif decide ((IntKind.i64.wrap (index + (entries.n : Int))) > 1024) then
              R 0 7 h_2
            else
              Nn l fun p =>
              Ld .sl h_2 p fun (l1 : Sl) =>
              Cut Tryz.prog 37 l1 none (some (.int .i64 (IntKind.i64.wrap (index + r3)))) (some (.int .i64 (IntKind.i64.wrap (index + r3)))) fun s =>
              Cut Tryz.prog 37 entries (some (.int .i64 r3)) none none fun s1 =>
              App Tryz.prog 37 37 s s1 h_2 fun s2 h_3 =>
              Nn l fun p1 =>
              St h_3 p1 (.slice s2.a s2.n s2.c) fun h_4 =>
              R (IntKind.i64.wrap ((IntKind.i64.wrap (index + r3)) + 1)) 0 h_4
            )
          )
        )
      )
    )
  )
theorem E_log_Log_Put (l : Option Addr) (index : Int) (term : Int) (entries : Sl) (h : Heap) (R : Int → Int → Heap → Prop) :
    VF Tryz.prog [] Tryz.f105 [.pointer l, .int .i64 index, .int .i64 term, .slice entries.a entries.n entries.c] h [.one (.int .i64), .one (.int .i64)] R = S_log_Log_Put l index term entries h R := by kernel_rfl
theorem A_log_Log_Put {l : Option Addr} {index : Int} {term : Int} {entries : Sl} {h : Heap} {R : Int → Int → Heap → Prop} (hs : S_log_Log_Put l index term entries h R) : C_log_Log_Put l index term entries h R :=
  use_ Tryz.func105 (by kernel_rfl) (E_log_Log_Put l index term entries h R) hs

/-- (*log.Log).Term -/
def S_log_Log_Term (l : Option Addr) (index : Int) (h : Heap) (R : Int → Bool → Heap → Prop) : Prop :=
  Join [] (fun _ h_ =>
    Nn l fun p =>
    Ld .sl h_ p fun (l1 : Sl) =>
    Ix l1 (IntKind.i64.wrap (index - 1)) 2 fun e =>
    Ld (.int .i64) h_ e fun (Term : Int) =>
    R Term true h_
    ) fun J =>
  (bif l.isNone then
    R 0 false h
  else
    (bif decide (index < 0) then
      R 0 false h
    else
      Nn l fun p1 =>
      Ld .sl h p1 fun (l2 : Sl) =>
      (bif decide (index > (l2.n : Int)) then
        R 0 false h
      else
        (bif index == 0 then
          R 0 true h
        else
          J  h
        )
      )
    )
  )
theorem E_log_Log_Term (l : Option Addr) (index : Int) (h : Heap) (R : Int → Bool → Heap → Prop) :
    VF Tryz.prog [(6, [])] Tryz.f113 [.pointer l, .int .i64 index] h [.one (.int .i64), .one .bool] R = S_log_Log_Term l index h R := by kernel_rfl
theorem A_log_Log_Term {l : Option Addr} {index : Int} {h : Heap} {R : Int → Bool → Heap → Prop} (hs : S_log_Log_Term l index h R) : C_log_Log_Term l index h R :=
  use_ Tryz.func113 (by kernel_rfl) (E_log_Log_Term l index h R) hs

/-- log.falls -/
def S_log_falls (term : Int) (entries : Sl) (h : Heap) (R : Bool → Heap → Prop) : Prop :=
  Loop [.one (.int .i64), .one (.int .i64)] (fun _ (term1 : Int) (x9 : Int) h_ go =>
    (bif decide (x9 < (entries.n : Int)) then
      Ix entries x9 2 fun e =>
      Ld (.int .i64) h_ e fun (x_Term : Int) =>
      Ld .str h_ (e.add 1) fun (x_Data : ByteArray) =>
      Alloc h_ (.cells #[.int .i64 0, .string (⟨#[]⟩ : ByteArray)] 40) fun e1 h_1 =>
      St h_1 e1 (.int .i64 x_Term) fun h_2 =>
      St h_2 (e1.add 1) (.string x_Data) fun h_3 =>
      Ld (.int .i64) h_3 e1 fun (Term : Int) =>
      (bif decide (Term < term1) then
        R true h_3
      else
        Ld (.int .i64) h_3 e1 fun (Term1 : Int) =>
        go Term1 (IntKind.i64.wrap (x9 + 1)) h_3
      )
    else
      R false h_
    )
    ) (term, 0, ()) h
theorem E_log_falls (term : Int) (entries : Sl) (h : Heap) (R : Bool → Heap → Prop) :
    VF Tryz.prog [(26, [(0, .one (.int .i64)), (9, .one (.int .i64))])] Tryz.f115 [.int .i64 term, .slice entries.a entries.n entries.c] h [.one .bool] R = S_log_falls term entries h R := by kernel_rfl
theorem A_log_falls {term : Int} {entries : Sl} {h : Heap} {R : Bool → Heap → Prop} (hs : S_log_falls term entries h R) : C_log_falls term entries h R :=
  use_ Tryz.func115 (by kernel_rfl) (E_log_falls term entries h R) hs

/-- (*log.Log).known -/
def S_log_Log_known (l : Option Addr) (index : Int) (entries : Sl) (h : Heap) (R : Int → Heap → Prop) : Prop :=
  Loop [.one (.int .i64)] (fun _ (x13 : Int) h_ go =>
    (bif decide (x13 < (entries.n : Int)) then
      Ix entries x13 2 fun e =>
      Ld (.int .i64) h_ e fun (x_Term : Int) =>
      Ld .str h_ (e.add 1) fun (x_Data : ByteArray) =>
      Alloc h_ (.cells #[.int .i64 0, .string (⟨#[]⟩ : ByteArray)] 40) fun e1 h_1 =>
      St h_1 e1 (.int .i64 x_Term) fun h_2 =>
      St h_2 (e1.add 1) (.string x_Data) fun h_3 =>
      C_log_Log_Term l (IntKind.i64.wrap ((IntKind.i64.wrap (index + 1)) + x13)) h_3 fun (r : Int) (r1 : Bool) h_4 =>
      (bif !r1 then
        R x13 h_4
      else
        Ld (.int .i64) h_4 e1 fun (Term : Int) =>
        (bif r != Term then
          R x13 h_4
        else
          go (IntKind.i64.wrap (x13 + 1)) h_4
        )
      )
    else
      R (entries.n : Int) h_
    )
    ) (0, ()) h
theorem E_log_Log_known (l : Option Addr) (index : Int) (entries : Sl) (h : Heap) (R : Int → Heap → Prop) :
    VF Tryz.prog [(26, [(13, .one (.int .i64))])] Tryz.f116 [.pointer l, .int .i64 index, .slice entries.a entries.n entries.c] h [.one (.int .i64)] R = S_log_Log_known l index entries h R := by kernel_rfl
theorem A_log_Log_known {l : Option Addr} {index : Int} {entries : Sl} {h : Heap} {R : Int → Heap → Prop} (hs : S_log_Log_known l index entries h R) : C_log_Log_known l index entries h R :=
  use_ Tryz.func116 (by kernel_rfl) (E_log_Log_known l index entries h R) hs

end Go.Proofs.YtniojdaddolnfaaGreat

/-
  A function whose results lie in cells of the heap (a struct's variable that is handed back): they are read where it comes to its end.
-/
namespace Go.Proofs.YtniojdaddolnfaaGreat
open Go

/-- A variable that is read, of a type whose cells are known. -/
def LdR (P : Program) (t : TypeId) (h : Heap) (a : Addr) (K : Value → Prop) : Prop :=
  match shOf P t with
  | .one k => Ld k h a fun x => K (k.mk x)
  | .agg ks => LdL h a 0 ks fun vs => K (.agg ⟨vs⟩)
  | .raw => False
/-- The values that the results' variables have. -/
def getV (P : Program) (h : Heap) (σ : Nat → Value) : List ResultVar → (List Value → Prop) → Prop
  | [], K => K []
  | .tmp t :: rs, K => getV P h σ rs fun vs => K (σ t :: vs)
  | .cell a t :: rs, K => match σ a with
    | .pointer (some ad) => LdR P t h ad fun v => getV P h σ rs fun vs => K (v :: vs)
    | _ => False
theorem LdR_run {P : Program} {t : TypeId} {h : Heap} {a : Addr} {K : Value → Prop} (hl : LdR P t h a K) :
    ∃ v, K v ∧ ∀ w : World, w.heap = h → (loadVar t a).run P w = .ok v w := by
  unfold LdR at hl
  have hsz : ∀ i, P.info? t = some i → ∀ w, (sizeOf t).run P w = .ok i.size w := fun i hi w => by
    unfold sizeOf; rw [Sem.run_bind, show (typeInfo t).run P w = .ok i w by simp [typeInfo, hi, program, Sem.run_bind, Sem.run]]; rfl
  split at hl
  · rename_i k hk
    obtain ⟨x, hx, hK⟩ := hl
    refine ⟨_, hK, fun w hw => ?_⟩
    unfold shOf at hk
    split at hk
    · cases hk
    · rename_i d hd
      split at hk
      · cases hk
      · rename_i i hi
        split at hk
        · split at hk
          · split at hk <;> cases hk
          · cases hk
        · rename_i hag
          have hc : w.cell? a = some (k.mk x) := by rw [cell_eq, hw]; exact hx
          simp only [Sem.run_bind, Result.andThen_ok, loadVar, run_isAgg hd]
          rw [if_neg (by simpa using hag)]
          show (Sem.load .plain a _).run P w = _
          simp only [Sem.run, hc]
  · rename_i ks hk
    obtain ⟨vs, hv, hrun⟩ := LdL_run (P := P) ks 0 _ hl
    refine ⟨_, hv, fun w hw => ?_⟩
    unfold shOf at hk
    split at hk
    · cases hk
    · rename_i d hd
      split at hk
      · cases hk
      · rename_i i hi
        split at hk
        · rename_i hag
          split at hk
          · rename_i cs hz
            split at hk
            · rename_i hsize
              injection hk with hk
              have hlen : ks.length = i.size := by rw [← hk]; simp [hsize.1]
              simp only [Sem.run_bind, Result.andThen_ok, loadVar, run_isAgg hd]
              rw [if_pos (by simpa using hag)]
              simp only [Sem.run_bind, hsz i hi, Result.andThen_ok, loadCells, ← hlen, hrun w #[] hw]
              simp
            · cases hk
          · cases hk
        · split at hk <;> cases hk
  · exact hl.elim
theorem getV_run {P : Program} {h : Heap} {σ : Nat → Value} {tmps : Array Value} (hσ : ∀ t, tmps.getD t undef = σ t) {w : World} (hw : w.heap = h) : ∀ (rs : List ResultVar) (K : List Value → Prop), getV P h σ rs K →
    ∃ vs, K vs ∧ (rs.mapM (resF tmps)).run P w = .ok vs w
  | [], K, hk => ⟨[], hk, by simp⟩
  | .tmp t :: rs, K, hk => by
    obtain ⟨vs, hv, hr⟩ := getV_run hσ hw rs _ hk
    refine ⟨_, hv, ?_⟩
    simp only [List.mapM_cons, Sem.run_bind, hr, resF, Sem.run_pure, Result.andThen_ok, hσ]
  | .cell a t :: rs, K, hk => by
    simp only [getV] at hk
    split at hk
    · rename_i ad ea
      obtain ⟨v, hv, hr⟩ := LdR_run hk
      obtain ⟨vs, hvs, hrs⟩ := getV_run hσ hw rs _ hv
      refine ⟨_, hvs, ?_⟩
      have e1 : (resF tmps (.cell a t)).run P w = .ok v w := by
        simp only [resF, hσ, ea, asAddr, Sem.run_bind, Sem.run_pure, Result.andThen_ok]
        exact hr w hw
      simp only [List.mapM_cons, Sem.run_bind, hrs, e1, Sem.run_pure, Result.andThen_ok]
    · exact hk.elim
/-- The whole of a function: its code, from its arguments on; its results read where it comes to its end. -/
def VG (P : Program) (an : List (Nat × Slots)) (fn : Func) (args : List Value) (h : Heap) (ss : List Sh) (R : TH (Heap → Prop) ss) : Prop :=
  match fn.body with
  | none => False
  | some c =>
      let K : Kont := fun σ h' => getV P h' σ fn.results.toList fun vs => getR ss vs fun x => TH.un ss R x h'
      V P an c 1 [] K K (argS args) h
theorem results_valsG {fn : Func} {tmps : Array Value} {P : Program} (w : World) {vs : List Value} (hrs : (fn.results.toList.mapM (resF tmps)).run P w = .ok vs w) {ss : List Sh} {x : HL ss}
    (hx : vs = HL.vals ss x) : (results fn tmps).run P w = .ok (retV ss x) w := by
  have h1 : (fn.results.mapM (resF tmps)).run P w = .ok vs.toArray w := by
    have e : fn.results = fn.results.toList.toArray := rfl
    rw [e, List.mapM_toArray, Sem.run_map, hrs]
    rfl
  rw [results_eq, Sem.run_bind, h1, hx]
  match ss, x with
  | [], _ => rfl
  | [s], x => rfl
  | s :: t :: ss, x =>
    simp only [Result.andThen_ok]
    rw [dif_neg (by simp [HL.vals])]
    rfl
theorem VG_sound {P : Program} {an : List (Nat × Slots)} {f : FuncId} {fn : Func} {args : List Value} {h : Heap} {ss : List Sh} {R : TH (Heap → Prop) ss} (hm : P.follows .mixedOrders = true) (hf : P.funcs[f]? = some fn)
    (hok : codeOk fn args.length = true) (hv : VG P an fn args h ss R) : CallR P f args h ss R := by
  intro w hw
  unfold VG at hv
  split at hv
  · exact hv.elim
  · rename_i c hc
    simp only [codeOk, hc, Bool.and_eq_true, List.all_eq_true, decide_eq_true_eq] at hok
    refine calls_of_wp hf hc (wp_mono (V_sound (n := fn.ntmps) (w₀ := w) hm c 1 [] _ _ (argS args) h _ w hv ⟨?_, rfl, fun t => argS_at args _ t⟩ hw (Env.refl w) hok.1) fun e a' w' hp => ?_)
    · have := hok.2
      simp; omega
    have fin : ∀ σ', Fr fn.ntmps a' σ' → (getV P w'.heap σ' fn.results.toList fun vs => getR ss vs fun x => TH.un ss R x w'.heap) → Env w w' → a'.defers = [] ∧ ∃ v, (results fn a'.tmps).run P w' = .ok v w' ∧ (Env w w' ∧ ∃ x, Ending.returned v = .returned (retV ss x) ∧ TH.un ss R x w'.heap) := fun σ' hfr hr hE => by
      obtain ⟨vs, hv1, hrun⟩ := getV_run (P := P) hfr.at_ (w := w') rfl _ _ hr
      obtain ⟨x, e1, h1⟩ := getR_spec ss _ _ hv1
      exact ⟨hfr.defers, _, results_valsG w' hrun e1, hE, x, rfl, h1⟩
    cases e with
    | normal => obtain ⟨hE, σ', hfr, hk, _⟩ := hp; exact fin σ' hfr hk hE
    | ret => obtain ⟨hE, σ', hfr, hk⟩ := hp; exact fin σ' hfr hk hE
    | exit id => obtain ⟨_, σ', _, hk, _⟩ := hp; exact hk.elim
    | _ => exact hp.elim
end Go.Proofs.YtniojdaddolnfaaGreat
