/-
  Layer 14 (chase): who is told is the youngest of a cycle; all who are, are told; it ends.
-/
import Derived.Test.YtmpekddpehhdnaaKa
namespace Go.Proofs.Ytmpekddpehhdnaa
open Go

/-! ## Ways by elder ones -/
def edg (N : List CN) (u t : Int) : Prop := t ∈ (nd N u).to
inductive EP (N : List CN) (s : Int) : Int → Prop
  | one {t : Int} : edg N s t → EP N s t
  | step {u t : Int} : EP N s u → eld N u s → edg N u t → EP N s t
theorem edg_has {N : List CN} {u t : Int} (h : edg N u t) : hasN N u := Decidable.byContradiction fun x => by
  unfold edg at h
  rw [nd_none x] at h
  cases h
theorem EP.start {N : List CN} {s t : Int} (h : EP N s t) : hasN N s := by
  induction h with
  | one h => exact edg_has h
  | step _ _ _ ih => exact ih
section
variable {C : CF} {s k : Nat}
theorem COk.edg (ho : COk s k C) {u t : Int} (h : edg C.N u t) : hasN C.N t ∧ t ≠ u := by
  have hu := edg_has h
  have := (ho.ndOk hu).to t h
  rw [(nd_mem hu).2] at this
  exact this
theorem EP.end_ (ho : COk s k C) {x t : Int} (h : EP C.N x t) : hasN C.N t := by
  cases h with
  | one h => exact (ho.edg h).1
  | step _ _ h => exact (ho.edg h).1
theorem EP.grow (ho : COk s k C) {N' : List CN} (hg : Grow C.N N') {x t : Int} (h : EP C.N x t) : EP N' x t := by
  induction h with
  | one h => exact .one (hg.to _ _ h)
  | step h1 h2 h3 ih => exact .step ih ((hg.eld (h1.end_ ho) h1.start).2 h2) (hg.to _ _ h3)
/-- Who is told, and where probes are. -/
structure KSnd (C : CF) : Prop where
  fl : ∀ p ∈ C.fl, EP C.N p.start p.at_
  vs : ∀ v ∈ C.vs, EP C.N v v
theorem new_snd : KSnd kNew := ⟨(fun p hp => by cases hp), (fun v hv => by cases hv)⟩
theorem KSnd.grow (h : KSnd C) (ho : COk s k C) {N' : List CN} (hg : Grow C.N N') (seen : Int → Int → Int) : KSnd ⟨N', C.fl, C.vs, seen⟩ := ⟨fun p hp => (h.fl p hp).grow ho hg, fun v hv => (h.vs v hv).grow ho hg⟩
theorem KSnd.send (h : KSnd C) {l : List Int} {p : CP} (hl : ∀ t ∈ l, EP C.N p.start t) : KSnd (kSend C l p) := ⟨fun q hq => by
    rcases List.mem_append.1 hq with hq | hq
    · exact h.fl q hq
    · obtain ⟨t, ht, rfl⟩ := List.mem_map.1 hq
      exact hl t (List.mem_filter.1 ht).1, h.vs⟩
theorem KSnd.begin_ (h : KSnd C) (ho : COk s k C) (id : Int) : KSnd (kBegin C id).1 := by
  unfold kBegin
  split
  · exact h
  · rename_i hx
    have hx : hasN C.N id := Decidable.not_not.1 hx
    have hg := grow_round ho hx
    exact (h.grow ho hg C.seen).send fun t ht => .one (hg.to _ _ ht)
theorem KSnd.take (h : KSnd C) (j : Nat) : KSnd (kTake C j) := ⟨fun q hq => by
    rcases List.mem_append.1 hq with hq | hq
    · exact h.fl q (List.mem_of_mem_take hq)
    · exact h.fl q (List.mem_of_mem_drop hq), h.vs⟩
theorem KSnd.dlv (h : KSnd C) {p : CP} (hp : FlOk C p) (he : EP C.N p.start p.at_) : KSnd (kDlv C p).1 := by
  unfold kDlv
  split
  · rename_i e
    refine ⟨h.fl, fun v hv => ?_⟩
    rcases mem_insI.1 hv with rfl | hv
    · rw [e] at he; exact he
    · exact h.vs v hv
  · rename_i hne
    split
    · exact KSnd.send (C := { C with seen := fun x a => if x = p.start ∧ a = p.at_ then p.round else C.seen x a }) ⟨h.fl, h.vs⟩ fun t ht => .step he (hp.el.resolve_left hne) ht
    · exact h
theorem KSnd.deliver (h : KSnd C) (ho : COk s k C) (i : Int) : KSnd (kDeliver C i).1 := by
  unfold kDeliver
  split
  · rename_i hin
    have hm := (pAt_mem hin).1
    exact (h.take _).dlv ((ho.fls _ hm).grow (.refl _)) (h.fl _ hm)
  · exact h
theorem KSnd.act (h : KSnd C) (ho : COk s k C) (a : KAct) : KSnd (kAct s C a) := by
  unfold kAct
  split
  · unfold kNode
    split
    · exact h
    · split
      · exact h
      · rename_i hn
        split
        · exact h
        · exact h.grow ho (grow_app (n := ⟨a.a, a.b, a.site, 0, []⟩) ho.uniq hn (Int.le_refl _)) C.seen
  · split
    · unfold kEdge
      split
      · exact h
      · split
        · exact h
        · rename_i hn
          exact h.grow ho (grow_upd (f := fun n => { n with to := insI n.to a.b }) (fun _ => rfl) ho.uniq (Decidable.not_not.1 hn).1 (fun _ => rfl) (fun _ => Int.le_refl _) fun n y hy => mem_insI.2 (.inr hy)) C.seen
    · split
      · exact h.begin_ ho _
      · split
        · unfold kDrop
          split
          · exact h.take _
          · exact h
        · split
          · unfold kDouble
            split
            · rename_i hin
              refine ⟨fun q hq => ?_, h.vs⟩
              rcases List.mem_append.1 hq with hq | hq
              · exact h.fl q hq
              · rw [List.mem_singleton.1 hq]; exact h.fl _ (pAt_mem hin).1
            · exact h
          · exact h.deliver ho _
/-! ## One who began anew is told, if it is the youngest of a cycle -/
def Cov (x r : Int) (C : CF) : Prop := ∀ u t, (u = x ∨ C.seen x u = r) → edg C.N u t → (t = x ∨ eld C.N t x) →
  (∃ p ∈ C.fl, p.start = x ∧ p.round = r ∧ p.at_ = t) ∨ (t = x ∧ x ∈ C.vs) ∨ (t ≠ x ∧ C.seen x t = r)
theorem eld_irr {N : List CN} {a : Int} (h : eld N a a) : False := by unfold eld at h; omega
theorem okTo_iff {N : List CN} {p : CP} (hs : p.stamp = (nd N p.start).stamp) (t : Int) : okTo N p t ↔ t = p.start ∨ eld N t p.start := by
  unfold okTo eld
  rw [hs]
theorem cov_begin (ho : COk s k C) {x : Int} (hx : hasN C.N x) : Cov x ((nd C.N x).round + 1) (kBegin C x).1 := by
  unfold kBegin
  rw [if_neg fun h => h hx]
  have e := nd_upd (f := fun n => { n with round := n.round + 1 }) (fun _ => rfl) ho.uniq hx
  intro u t hu he ht
  have hsl := (ho.seen x u).2.1
  rcases hu with rfl | hu
  · refine .inl ⟨⟨u, (nd C.N u).stamp, (nd C.N u).round + 1, t⟩, List.mem_append_right _ (List.mem_map.2 ⟨t, List.mem_filter.2 ⟨?_, decide_eq_true ?_⟩, rfl⟩), rfl, rfl, rfl⟩
    · have he : t ∈ (nd (updN C.N u fun n => { n with round := n.round + 1 }) u).to := he
      rw [e, if_pos rfl] at he
      exact he
    · refine (okTo_iff (p := ⟨u, (nd C.N u).stamp, (nd C.N u).round + 1, 0⟩) ?_ t).2 ht
      show _ = (nd (updN C.N u fun n => { n with round := n.round + 1 }) u).stamp
      rw [e, if_pos rfl]
  · have hu : C.seen x u = (nd C.N x).round + 1 := hu
    omega
theorem fl_head {C : CF} (h : C.fl ≠ []) : ∃ p l, C.fl = p :: l := by
  cases hl : C.fl with
  | nil => exact absurd hl h
  | cons p l => exact ⟨p, l, rfl⟩
theorem deliver0 {C : CF} {p : CP} {l : List CP} (h : C.fl = p :: l) : (kDeliver C 0).1 = (kDlv { C with fl := l } p).1 := by
  have hin : inFl C 0 := by unfold inFl; rw [h]; simp
  unfold kDeliver
  rw [if_pos hin]
  show (kDlv (kTake C 0) (pAt C 0)).1 = _
  have e1 : pAt C 0 = p := by
    unfold pAt
    show (C.fl[0]?).getD _ = p
    rw [h]; rfl
  have e2 : kTake C 0 = { C with fl := l } := by
    unfold kTake
    rw [h]; rfl
  rw [e1, e2]
theorem dlv_N (C : CF) (p : CP) : (kDlv C p).1.N = C.N := by
  unfold kDlv
  split
  · rfl
  · split <;> rfl
theorem dlv_vs (C : CF) (p : CP) : ∀ v ∈ C.vs, v ∈ (kDlv C p).1.vs := by
  intro v hv
  unfold kDlv
  split
  · exact mem_insI.2 (.inr hv)
  · split <;> exact hv
theorem deliver_N (C : CF) (i : Int) : (kDeliver C i).1.N = C.N := by
  unfold kDeliver
  split
  · exact dlv_N _ _
  · rfl
theorem deliver_vs (C : CF) (i : Int) : ∀ v ∈ C.vs, v ∈ (kDeliver C i).1.vs := by
  intro v hv
  unfold kDeliver
  split
  · exact dlv_vs _ _ v hv
  · exact hv
theorem begin_vs (C : CF) (id : Int) : (kBegin C id).1.vs = C.vs := by
  unfold kBegin
  split <;> rfl
theorem cov_deliver (ho : COk s k C) {x : Int} (hc : Cov x (nd C.N x).round C) (hne : C.fl ≠ []) : Cov x (nd C.N x).round (kDeliver C 0).1 := by
  obtain ⟨p, l, hl⟩ := fl_head hne
  have hp := ho.fls p (by rw [hl]; exact List.mem_cons_self ..)
  rw [deliver0 hl]
  have hsee := ho.seen
  unfold kDlv
  split
  · rename_i hself
    intro u t hu he ht
    rcases hc u t hu he ht with ⟨q, hq, h1, h2, h3⟩ | h | h
    · rw [hl] at hq
      rcases List.mem_cons.1 hq with rfl | hq
      · exact .inr (.inl ⟨by rw [← h3, hself]; exact h1, mem_insI.2 (.inl h1.symm)⟩)
      · exact .inl ⟨q, hq, h1, h2, h3⟩
    · exact .inr (.inl ⟨h.1, mem_insI.2 (.inr h.2)⟩)
    · exact .inr (.inr h)
  · rename_i hself
    split
    · rename_i hlt
      have hlt : C.seen p.start p.at_ < p.round := hlt
      intro u t hu he ht
      by_cases hup : x = p.start ∧ u = p.at_ ∧ p.round = (nd C.N x).round
      · obtain ⟨rfl, rfl, hr⟩ := hup
        refine .inl ⟨{ p with at_ := t }, List.mem_append_right _ (List.mem_map.2 ⟨t, List.mem_filter.2 ⟨he, decide_eq_true ?_⟩, rfl⟩), rfl, hr, rfl⟩
        exact (okTo_iff (N := C.N) hp.stamp t).2 ht
      · have hu2 : u = x ∨ C.seen x u = (nd C.N x).round := by
          rcases hu with hu | hu
          · exact .inl hu
          · have hu : (if x = p.start ∧ u = p.at_ then p.round else C.seen x u) = (nd C.N x).round := hu
            split at hu
            · rename_i e; exact absurd ⟨e.1, e.2, hu⟩ hup
            · exact .inr hu
        have keep : t ≠ x → C.seen x t = (nd C.N x).round → (if x = p.start ∧ t = p.at_ then p.round else C.seen x t) = (nd C.N x).round := fun _ h2 => by
          split
          · rename_i e
            have := hp.r2
            rw [← e.1] at this hlt
            rw [← e.2] at hlt
            omega
          · exact h2
        rcases hc u t hu2 he ht with ⟨q, hq, h1, h2, h3⟩ | h | h
        · rw [hl] at hq
          rcases List.mem_cons.1 hq with rfl | hq
          · refine .inr (.inr ⟨fun e => hself (by rw [h3, h1]; exact e), ?_⟩)
            show (if x = q.start ∧ t = q.at_ then q.round else C.seen x t) = _
            rw [if_pos ⟨h1.symm, h3.symm⟩]; exact h2
          · exact .inl ⟨q, List.mem_append_left _ hq, h1, h2, h3⟩
        · exact .inr (.inl h)
        · exact .inr (.inr ⟨h.1, keep h.1 h.2⟩)
    · rename_i hge
      have hge : ¬ C.seen p.start p.at_ < p.round := hge
      intro u t hu he ht
      rcases hc u t hu he ht with ⟨q, hq, h1, h2, h3⟩ | h | h
      · rw [hl] at hq
        rcases List.mem_cons.1 hq with rfl | hq
        · refine .inr (.inr ⟨fun e => hself (by rw [h3, h1]; exact e), ?_⟩)
          rw [h1, h3] at hge
          have := (hsee x t).2.1
          show C.seen x t = _
          omega
        · exact .inl ⟨q, hq, h1, h2, h3⟩
      · exact .inr (.inl h)
      · exact .inr (.inr h)
theorem cov_end {x r : Int} (hc : Cov x r C) (hfl : C.fl = []) (h : EP C.N x x) : x ∈ C.vs := by
  have hno : ∀ u t, (u = x ∨ C.seen x u = r) → edg C.N u t → (t = x ∨ eld C.N t x) → (t = x ∧ x ∈ C.vs) ∨ (t ≠ x ∧ C.seen x t = r) := fun u t hu he ht => by
    rcases hc u t hu he ht with ⟨p, hp, _⟩ | h
    · rw [hfl] at hp; cases hp
    · exact h
  have key : ∀ t, EP C.N x t → eld C.N t x → C.seen x t = r := by
    intro t ht
    induction ht with
    | one h =>
      intro he
      rcases hno _ _ (.inl rfl) h (.inr he) with ⟨e, _⟩ | h
      · rw [e] at he; exact (eld_irr he).elim
      · exact h.2
    | step h1 h2 h3 ih =>
      intro he
      rcases hno _ _ (.inr (ih h2)) h3 (.inr he) with ⟨e, _⟩ | h
      · rw [e] at he; exact (eld_irr he).elim
      · exact h.2
  cases h with
  | one h =>
    rcases hno _ _ (.inl rfl) h (.inl rfl) with h | h
    · exact h.2
    · exact absurd rfl h.1
  | step h1 h2 h3 =>
    rcases hno _ _ (.inr (key _ h1 h2)) h3 (.inl rfl) with h | h
    · exact h.2
    · exact absurd rfl h.1
/-! ## It ends -/
def eT (N : List CN) : Nat := (N.map fun n => n.to.length).sum
def bT (N : List CN) : Nat := (N.map fun n => n.round.toNat).sum
def rowP (N : List CN) (seen : Int → Int → Int) (x : CN) : Nat := (N.map fun y => (x.round - seen x.id y.id).toNat * y.to.length).sum
def pot (C : CF) : Nat := C.fl.length + (C.N.map (rowP C.N C.seen)).sum
theorem sum_le {α : Type} {f g : α → Nat} : ∀ {l : List α}, (∀ x ∈ l, f x ≤ g x) → (l.map f).sum ≤ (l.map g).sum
  | [], _ => Nat.le_refl _
  | a :: l, h => by
    have := sum_le (l := l) fun x hx => h x (List.mem_cons_of_mem _ hx)
    have := h a (List.mem_cons_self ..)
    simp only [List.map_cons, List.sum_cons]; omega
theorem sum_le1 {α : Type} {f g : α → Nat} {c : Nat} : ∀ {l : List α} {a : α}, a ∈ l → (∀ x ∈ l, f x ≤ g x) → f a + c ≤ g a → (l.map f).sum + c ≤ (l.map g).sum
  | b :: l, a, ha, h, hc => by
    have h1 := h b (List.mem_cons_self ..)
    simp only [List.map_cons, List.sum_cons]
    rcases List.mem_cons.1 ha with rfl | ha
    · have := sum_le (l := l) fun x hx => h x (List.mem_cons_of_mem _ hx)
      omega
    · have := sum_le1 (l := l) ha (fun x hx => h x (List.mem_cons_of_mem _ hx)) hc
      omega
theorem sum_add {α : Type} {f g : α → Nat} : ∀ {l : List α}, (l.map fun x => f x + g x).sum = (l.map f).sum + (l.map g).sum
  | [] => rfl
  | a :: l => by
    have := sum_add (f := f) (g := g) (l := l)
    simp only [List.map_cons, List.sum_cons]; omega
theorem mem_sum {α : Type} {f : α → Nat} : ∀ {l : List α} {a : α}, a ∈ l → f a ≤ (l.map f).sum
  | b :: l, a, ha => by
    simp only [List.map_cons, List.sum_cons]
    rcases List.mem_cons.1 ha with rfl | ha
    · omega
    · have := mem_sum (f := f) ha; omega
/-- One is raised. -/
theorem sum_upd {N : List CN} {x : Int} {f : CN → CN} {F : CN → Nat} {c : Nat} : UniqN N → (∀ n ∈ N, n.id = x → F (f n) ≤ F n + c) → ((updN N x f).map F).sum ≤ (N.map F).sum + c := by
  induction N with
  | nil => intro _ _; exact Nat.zero_le _
  | cons a N ih =>
    intro hu h
    obtain ⟨h1, h2⟩ := List.pairwise_cons.1 hu
    show (((if a.id = x then f a else a) :: updN N x f).map F).sum ≤ ((a :: N).map F).sum + c
    simp only [List.map_cons, List.sum_cons]
    by_cases e : a.id = x
    · rw [if_pos e]
      have e2 : updN N x f = N := by
        unfold updN
        rw [← List.map_id N]
        simp only [List.map_map]
        refine List.map_congr_left fun n hn => ?_
        show (if n.id = x then f n else n) = n
        rw [if_neg fun e3 => h1 n hn (by rw [e, e3])]
      rw [e2]
      have := h a (List.mem_cons_self ..) e
      omega
    · rw [if_neg e]
      have := ih h2 fun n hn => h n (List.mem_cons_of_mem _ hn)
      omega
theorem map_upd {α : Type} {N : List CN} {x : Int} {f : CN → CN} {F : CN → α} (h : ∀ n, F (f n) = F n) : (updN N x f).map F = N.map F := by
  unfold updN
  rw [List.map_map]
  refine List.map_congr_left fun n _ => ?_
  show F (if n.id = x then f n else n) = F n
  split
  · exact h n
  · rfl
theorem rowP_round (N : List CN) (seen : Int → Int → Int) (id : Int) (x : CN) : rowP (updN N id fun n => { n with round := n.round + 1 }) seen x = rowP N seen x := by
  unfold rowP
  rw [map_upd (f := fun n => { n with round := n.round + 1 }) fun n => rfl]
theorem to_le_eT {N : List CN} {n : CN} (h : n ∈ N) : n.to.length ≤ eT N := mem_sum (f := fun n => n.to.length) h
theorem pot_begin (ho : COk s k C) (id : Int) : pot (kBegin C id).1 ≤ pot C + 2 * eT C.N ∧ eT (kBegin C id).1.N = eT C.N ∧ bT (kBegin C id).1.N ≤ bT C.N + 1 ∧ (kBegin C id).1.N.length = C.N.length := by
  unfold kBegin
  split
  · exact ⟨by show pot C ≤ _; omega, rfl, Nat.le_succ _, rfl⟩
  · rename_i hx
    have hx : hasN C.N id := Decidable.not_not.1 hx
    refine ⟨?_, ?_, ?_, updN_len ..⟩
    · show (C.fl ++ sentL (updN C.N id fun n => { n with round := n.round + 1 }) (nd C.N id).to ⟨id, (nd C.N id).stamp, (nd C.N id).round + 1, 0⟩).length + ((updN C.N id fun n => { n with round := n.round + 1 }).map (rowP (updN C.N id fun n => { n with round := n.round + 1 }) C.seen)).sum ≤ _
      rw [List.length_append, show rowP (updN C.N id fun n => { n with round := n.round + 1 }) C.seen = rowP C.N C.seen from funext fun x => rowP_round ..]
      have h1 := sent_len (updN C.N id fun n => { n with round := n.round + 1 }) (nd C.N id).to ⟨id, (nd C.N id).stamp, (nd C.N id).round + 1, 0⟩
      have h2 := to_le_eT (nd_mem hx).1
      have h3 := sum_upd (N := C.N) (x := id) (f := fun n => { n with round := n.round + 1 }) (F := rowP C.N C.seen) (c := eT C.N) ho.uniq fun n hn _ => by
        show rowP C.N C.seen { n with round := n.round + 1 } ≤ _
        unfold rowP eT
        rw [← sum_add]
        refine sum_le fun y _ => ?_
        show (n.round + 1 - C.seen n.id y.id).toNat * y.to.length ≤ (n.round - C.seen n.id y.id).toNat * y.to.length + y.to.length
        have : (n.round + 1 - C.seen n.id y.id).toNat ≤ (n.round - C.seen n.id y.id).toNat + 1 := by omega
        calc _ ≤ ((n.round - C.seen n.id y.id).toNat + 1) * y.to.length := Nat.mul_le_mul_right _ this
          _ = _ := by rw [Nat.add_mul, Nat.one_mul]
      unfold pot
      omega
    · show eT (updN C.N id fun n => { n with round := n.round + 1 }) = _
      unfold eT
      rw [map_upd (f := fun n => { n with round := n.round + 1 }) fun n => rfl]
    · show bT (updN C.N id fun n => { n with round := n.round + 1 }) ≤ _
      unfold bT
      refine sum_upd ho.uniq fun n _ _ => ?_
      show (n.round + 1).toNat ≤ n.round.toNat + 1
      omega
theorem pot_edge (ho : COk s k C) (f t : Int) : pot (kEdge C f t).1 ≤ pot C + bT C.N ∧ eT (kEdge C f t).1.N ≤ eT C.N + 1 ∧ bT (kEdge C f t).1.N = bT C.N ∧ (kEdge C f t).1.N.length = C.N.length := by
  unfold kEdge
  split
  · exact ⟨Nat.le_add_right _ _, Nat.le_succ _, rfl, rfl⟩
  · split
    · exact ⟨Nat.le_add_right _ _, Nat.le_succ _, rfl, rfl⟩
    · refine ⟨?_, ?_, ?_, updN_len ..⟩
      · show C.fl.length + ((updN C.N f fun n => { n with to := insI n.to t }).map (rowP (updN C.N f fun n => { n with to := insI n.to t }) C.seen)).sum ≤ _
        have h1 : ((updN C.N f fun n => { n with to := insI n.to t }).map (rowP (updN C.N f fun n => { n with to := insI n.to t }) C.seen)).sum ≤ ((updN C.N f fun n => { n with to := insI n.to t }).map fun x => rowP C.N C.seen x + x.round.toNat).sum := by
          refine sum_le fun x _ => ?_
          refine sum_upd (F := fun y => (x.round - C.seen x.id y.id).toNat * y.to.length) (c := x.round.toNat) ho.uniq fun n hn _ => ?_
          show (x.round - C.seen x.id n.id).toNat * (insI n.to t).length ≤ (x.round - C.seen x.id n.id).toNat * n.to.length + x.round.toNat
          have h2 := (insI_len (ho.ns n hn).srt t).2
          have h3 := (ho.seen x.id n.id).1
          have h4 : (x.round - C.seen x.id n.id).toNat ≤ x.round.toNat := by omega
          calc _ ≤ (x.round - C.seen x.id n.id).toNat * (n.to.length + 1) := Nat.mul_le_mul_left _ h2
            _ = (x.round - C.seen x.id n.id).toNat * n.to.length + (x.round - C.seen x.id n.id).toNat := by rw [Nat.mul_add, Nat.mul_one]
            _ ≤ _ := by omega
        rw [map_upd (F := fun x => rowP C.N C.seen x + x.round.toNat) (f := fun n => { n with to := insI n.to t }) (fun n => rfl), sum_add] at h1
        unfold pot bT
        omega
      · show eT (updN C.N f fun n => { n with to := insI n.to t }) ≤ _
        unfold eT
        exact sum_upd ho.uniq fun n hn _ => (insI_len (ho.ns n hn).srt t).2
      · show bT (updN C.N f fun n => { n with to := insI n.to t }) = _
        unfold bT
        rw [map_upd (f := fun n => { n with to := insI n.to t }) fun n => rfl]
theorem pot_node (ho : COk s k C) (id stamp site : Int) : (kNode s C id stamp site).1 = C ∨ (pot (kNode s C id stamp site).1 ≤ pot C ∧ eT (kNode s C id stamp site).1.N = eT C.N ∧ bT (kNode s C id stamp site).1.N = bT C.N ∧ (kNode s C id stamp site).1.N.length = C.N.length + 1) := by
  unfold kNode
  split
  · exact .inl rfl
  · split
    · exact .inl rfl
    · split
      · exact .inl rfl
      · refine .inr ⟨?_, ?_, ?_, by show (C.N ++ [_]).length = _; rw [List.length_append, List.length_singleton]⟩
        · show C.fl.length + ((C.N ++ [(⟨id, stamp, site, 0, []⟩ : CN)]).map (rowP (C.N ++ [(⟨id, stamp, site, 0, []⟩ : CN)]) C.seen)).sum ≤ _
          have h1 : ∀ x, rowP (C.N ++ [⟨id, stamp, site, 0, []⟩]) C.seen x = rowP C.N C.seen x := fun x => by
            unfold rowP
            rw [List.map_append, List.sum_append]
            simp
          rw [funext h1, List.map_append, List.sum_append]
          have h2 : rowP C.N C.seen ⟨id, stamp, site, 0, []⟩ = 0 := by
            unfold rowP
            refine Nat.le_zero.1 (Nat.le_trans (sum_le (g := fun _ => 0) fun y _ => ?_) ?_)
            · have h3 := (ho.seen id y.id).1
              show (0 - C.seen id y.id).toNat * y.to.length ≤ 0
              rw [show (0 - C.seen id y.id).toNat = 0 by omega, Nat.zero_mul]; exact Nat.le_refl _
            · exact Nat.le_of_eq (by induction C.N with
                | nil => rfl
                | cons a l ih => simpa using ih)
          simp only [List.map_cons, List.map_nil, List.sum_cons, List.sum_nil, h2]
          unfold pot
          omega
        · show eT (C.N ++ [_]) = _
          unfold eT
          rw [List.map_append, List.sum_append]; simp
        · show bT (C.N ++ [_]) = _
          unfold bT
          rw [List.map_append, List.sum_append]; simp
theorem pot_dlvD (ho : COk s k C) {p : CP} (hp : FlOk C p) : pot (kDlv C p).1 ≤ pot C := by
  unfold kDlv
  split
  · exact Nat.le_refl _
  · split
    · rename_i hlt
      have hlt : C.seen p.start p.at_ < p.round := hlt
      obtain ⟨s1, s2⟩ := nd_mem hp.st
      obtain ⟨a1, a2⟩ := nd_mem hp.at_
      have h1 := sent_len C.N (nd C.N p.at_).to p
      have h2 : (C.N.map (rowP C.N fun x a => if x = p.start ∧ a = p.at_ then p.round else C.seen x a)).sum + (nd C.N p.at_).to.length ≤ (C.N.map (rowP C.N C.seen)).sum := by
        have hle : ∀ (x y : CN), x.id = (nd C.N x.id).id → (x.round - (if x.id = p.start ∧ y.id = p.at_ then p.round else C.seen x.id y.id)).toNat * y.to.length ≤ (x.round - C.seen x.id y.id).toNat * y.to.length := fun x y _ => by
          refine Nat.mul_le_mul_right _ ?_
          split
          · rename_i e; rw [e.1, e.2]; omega
          · exact Nat.le_refl _
        refine sum_le1 (a := nd C.N p.start) s1 (fun x hx => ?_) ?_
        · unfold rowP
          refine sum_le fun y hy => hle x y ?_
          rw [(nd_mem ⟨x, hx, rfl⟩).2]
        · unfold rowP
          refine sum_le1 (a := nd C.N p.at_) a1 (fun y hy => hle _ y (by rw [s2, s2])) ?_
          rw [s2, a2]
          show ((nd C.N p.start).round - (if p.start = p.start ∧ p.at_ = p.at_ then p.round else C.seen p.start p.at_)).toNat * _ + _ ≤ _
          rw [if_pos ⟨rfl, rfl⟩]
          have h3 := hp.r2
          have h4 : ((nd C.N p.start).round - p.round).toNat + 1 ≤ ((nd C.N p.start).round - C.seen p.start p.at_).toNat := by omega
          calc ((nd C.N p.start).round - p.round).toNat * (nd C.N p.at_).to.length + (nd C.N p.at_).to.length = (((nd C.N p.start).round - p.round).toNat + 1) * (nd C.N p.at_).to.length := by rw [Nat.add_mul, Nat.one_mul]
            _ ≤ _ := Nat.mul_le_mul_right _ h4
      show (C.fl ++ sentL C.N (nd C.N p.at_).to p).length + (C.N.map (rowP C.N fun x a => if x = p.start ∧ a = p.at_ then p.round else C.seen x a)).sum ≤ C.fl.length + (C.N.map (rowP C.N C.seen)).sum
      rw [List.length_append]
      omega
    · exact Nat.le_refl _
theorem COk.take0 (ho : COk s k C) {p : CP} {l : List CP} (hl : C.fl = p :: l) : COk s k { C with fl := l } := by
  have := ho.take 0
  unfold kTake at this
  rw [hl] at this
  exact this
theorem pot_dlv (ho : COk s k C) {p : CP} {l : List CP} (hl : C.fl = p :: l) : pot (kDeliver C 0).1 + 1 ≤ pot C := by
  have hp := ho.fls p (by rw [hl]; exact List.mem_cons_self ..)
  rw [deliver0 hl]
  have h0 : pot { C with fl := l } + 1 = pot C := by
    unfold pot
    rw [hl, List.length_cons]
    show l.length + (C.N.map (rowP C.N C.seen)).sum + 1 = _
    omega
  rw [← h0]
  exact Nat.succ_le_succ (pot_dlvD (ho.take0 hl) (hp.grow (.refl _)))
theorem pot_take (C : CF) (j : Nat) : pot (kTake C j) ≤ pot C := by
  have := take_len C j
  show (kTake C j).fl.length + (C.N.map (rowP C.N C.seen)).sum ≤ _
  unfold pot
  omega
/-- How much may still come, behind so many acts. -/
structure PInv (j : Nat) (C : CF) : Prop where
  n : eT C.N + bT C.N + C.N.length ≤ j
  p : pot C + 160 * C.N.length ≤ 160 * j
theorem PInv.mono {j : Nat} (h : PInv j C) : PInv (j + 1) C := ⟨by have := h.n; omega, by have := h.p; omega⟩
theorem PInv.act {j : Nat} (h : PInv j C) (ho : COk s k C) (hj : j < 80) (a : KAct) : PInv (j + 1) (kAct s C a) := by
  have h1 := h.n
  have h2 := h.p
  unfold kAct
  split
  · rcases pot_node ho a.a a.b a.site with e | ⟨h3, h4, h5, h6⟩
    · rw [e]; exact h.mono
    · exact ⟨by omega, by omega⟩
  · split
    · obtain ⟨h3, h4, h5, h6⟩ := pot_edge ho a.a a.b
      exact ⟨by omega, by omega⟩
    · split
      · obtain ⟨h3, h4, h5, h6⟩ := pot_begin ho a.a
        exact ⟨by omega, by omega⟩
      · split
        · unfold kDrop
          split
          · have h3 := pot_take C a.a.toNat
            exact ⟨by show eT C.N + bT C.N + C.N.length ≤ _; omega, by show pot (kTake _ _) + 160 * C.N.length ≤ _; omega⟩
          · exact h.mono
        · split
          · unfold kDouble
            split
            · refine ⟨by show eT C.N + bT C.N + C.N.length ≤ _; omega, ?_⟩
              show (C.fl ++ [_]).length + (C.N.map (rowP C.N C.seen)).sum + 160 * C.N.length ≤ _
              unfold pot at h2
              rw [List.length_append, List.length_singleton]; omega
            · exact h.mono
          · unfold kDeliver
            split
            · rename_i hin
              have h3 := pot_take C a.a.toNat
              have h4 := pot_dlvD (ho.take a.a.toNat) ((ho.fls _ (pAt_mem hin).1).grow (.refl _))
              have h5 : (kDlv (kTake C a.a.toNat) (pAt C a.a)).1.N = C.N := dlv_N _ _
              refine ⟨?_, ?_⟩
              · show eT (kDlv _ _).1.N + bT (kDlv _ _).1.N + (kDlv _ _).1.N.length ≤ _
                rw [h5]; omega
              · show pot (kDlv _ _).1 + 160 * (kDlv _ _).1.N.length ≤ _
                rw [h5]; omega
            · exact h.mono
theorem new_pinv : PInv 0 kNew := ⟨Nat.le_refl _, Nat.le_refl _⟩
end
end Go.Proofs.Ytmpekddpehhdnaa
