/-
  Rules for slices of elements of fixed width: read, written, appended to, cut; footprints: what a step turns, and what keeps apart.
-/
import Derived.Test.YtegbnmaglkpkjaaRe
namespace Go.Proofs.Ytegbnmaglkpkjaa
open Go

/-! ## Elements -/
structure Enc (α : Type) (sz : Nat) where
  cells : α → List Value
  len : ∀ x, (cells x).length = sz
  pos : 0 < sz
  one : ∀ x, ∀ u ∈ cells x, u.oneCell' = true
def Enc.fl {α : Type} {sz : Nat} (E : Enc α sz) (l : List α) : List Value := l.flatMap E.cells
section
variable {α : Type} {sz : Nat} {E : Enc α sz}
theorem Enc.fl_nil (E : Enc α sz) : E.fl [] = [] := rfl
theorem Enc.fl_one (E : Enc α sz) (x : α) : E.fl [x] = E.cells x := by simp [Enc.fl]
theorem Enc.fl_len (E : Enc α sz) (l : List α) : (E.fl l).length = l.length * sz := flat_len E.cells sz E.len l
theorem Enc.fl_app (E : Enc α sz) (a b : List α) : E.fl (a ++ b) = E.fl a ++ E.fl b := List.flatMap_append ..
theorem Enc.fl_cons (E : Enc α sz) (a : α) (b : List α) : E.fl (a :: b) = E.cells a ++ E.fl b := List.flatMap_cons ..
theorem Enc.fl_get (E : Enc α sz) (l : List α) (k j : Nat) (hk : k < l.length) (hj : j < sz) : (E.fl l)[k * sz + j]? = (E.cells l[k])[j]? := flat_get E.cells sz E.len l k j hk hj
theorem Enc.fl_take (E : Enc α sz) : ∀ (l : List α) (n : Nat), (E.fl l).take (n * sz) = E.fl (l.take n)
  | [], n => by simp [Enc.fl]
  | x :: xs, 0 => by simp [Enc.fl]
  | x :: xs, n + 1 => by
    rw [Enc.fl_cons, List.take_succ_cons, Enc.fl_cons, show (n + 1) * sz = (E.cells x).length + n * sz by rw [E.len, Nat.succ_mul]; omega, List.take_length_add_append, E.fl_take xs n]
theorem Enc.fl_drop (E : Enc α sz) : ∀ (l : List α) (n : Nat), (E.fl l).drop (n * sz) = E.fl (l.drop n)
  | [], n => by simp [Enc.fl]
  | x :: xs, 0 => by simp [Enc.fl]
  | x :: xs, n + 1 => by
    rw [Enc.fl_cons, List.drop_succ_cons, show (n + 1) * sz = (E.cells x).length + n * sz by rw [E.len, Nat.succ_mul]; omega, List.drop_length_add_append, E.fl_drop xs n]
theorem Enc.fl_ones (E : Enc α sz) (l : List α) : ∀ u ∈ E.fl l, u.oneCell' = true := by
  intro u hu
  obtain ⟨e, _, he⟩ := List.mem_flatMap.1 hu
  exact E.one e u he
theorem Enc.fl_set (E : Enc α sz) : ∀ (l : List α) (k j : Nat) (v : Value) (y : α) (hk : k < l.length), j < sz → E.cells y = (E.cells l[k]).set j v → (E.fl l).set (k * sz + j) v = E.fl (l.set k y)
  | x :: xs, 0, j, v, y, _, hj, hy => by
    rw [Enc.fl_cons, List.set_cons_zero, Enc.fl_cons, Nat.zero_mul, Nat.zero_add, List.set_append_left _ _ (by rw [E.len]; exact hj), hy]; rfl
  | x :: xs, k + 1, j, v, y, hk, hj, hy => by
    rw [Enc.fl_cons, List.set_cons_succ, Enc.fl_cons, List.set_append_right _ _ (by rw [E.len, Nat.succ_mul]; omega), E.len, show (k + 1) * sz + j - sz = k * sz + j by rw [Nat.succ_mul]; omega,
      E.fl_set xs k j v y (by simpa using hk) hj hy]
theorem rdn {h : Heap} {s : Sl} {l : List α} (hr : RdS h sz s (E.fl l)) : s.n = l.length := by
  have := hr.1
  rw [E.fl_len] at this
  exact (Nat.eq_of_mul_eq_mul_right E.pos this).symm
theorem ownn {h : Heap} {s : Sl} {l : List α} (hr : Own h sz s (E.fl l)) : s.n = l.length := rdn hr.rd

/-- The address of a slice's element. -/
def ElAt (s : Sl) (sz k : Nat) (e : Addr) : Prop := ∃ g o, s.a = some ⟨g, o, none⟩ ∧ e = ⟨g, o + k * sz, none⟩
theorem ixR {h : Heap} {s : Sl} {l : List α} {i : Int} {K : Addr → Prop} (hr : RdS h sz s (E.fl l)) (k : Nat) (hi : i = (k : Int)) (hk : k < l.length) (hK : ∀ e, ElAt s sz k e → K e) : Ix s i sz K := by
  subst hi
  have hn := rdn hr
  have hp := E.pos
  obtain ⟨g, o, ha, _⟩ := hr.2 (by rw [E.fl_len]; exact Nat.mul_pos (by omega) hp)
  refine ⟨_, ha, by omega, by omega, ?_⟩
  rw [add0, Int.toNat_natCast]
  exact hK _ ⟨g, o, ha, rfl⟩
theorem ldR {kd : Kd} {h : Heap} {s : Sl} {l : List α} {k : Nat} {e : Addr} {K : kd.T → Prop} {j : Nat} (hr : RdS h sz s (E.fl l)) (he : ElAt s sz k e) (hk : k < l.length) (x : kd.T) (hx : (E.cells l[k])[j]? = some (kd.mk x)) (hK : K x) : Ld kd h (e.add j) K := by
  have hp := E.pos
  have hj : j < sz := by
    have := (List.getElem?_eq_some_iff.1 hx).1
    rwa [E.len] at this
  obtain ⟨g, o, ha, rfl⟩ := he
  obtain ⟨g', o', ha', hc⟩ := hr.2 (by rw [E.fl_len]; exact Nat.mul_pos (by omega) hp)
  rw [ha] at ha'
  simp only [Option.some.injEq, Addr.mk.injEq, and_true] at ha'
  obtain ⟨rfl, rfl⟩ := ha'
  rw [add0, Nat.add_assoc]
  have hkl : k * sz + j < (E.fl l).length := by
    rw [E.fl_len]
    have : (k + 1) * sz ≤ l.length * sz := Nat.mul_le_mul_right _ hk
    rw [Nat.succ_mul] at this
    omega
  exact ld x ((hc _ hkl).trans ((E.fl_get l k j hk hj).trans hx)) hK
theorem ldR0 {kd : Kd} {h : Heap} {s : Sl} {l : List α} {k : Nat} {e : Addr} {K : kd.T → Prop} (hr : RdS h sz s (E.fl l)) (he : ElAt s sz k e) (hk : k < l.length) (x : kd.T) (hx : (E.cells l[k])[0]? = some (kd.mk x)) (hK : K x) : Ld kd h e K :=
  ldR (j := 0) hr he hk x hx hK
theorem stR {h : Heap} {s : Sl} {l : List α} {k : Nat} {e : Addr} {K : Heap → Prop} {j : Nat} {v : Value} (ho : Own h sz s (E.fl l)) (he : ElAt s sz k e) (hk : k < l.length) (hj : j < sz) (y : α) (hy : E.cells y = (E.cells l[k]).set j v)
    (hK : ∀ h', Own h' sz s (E.fl (l.set k y)) → Upd (fun g => s.blk = some g) h h' → h'.size = h.size → K h') : St h (e.add j) v K := by
  have hn := ownn ho
  obtain ⟨g, o, ha, rfl⟩ := he
  have := setO (K := K) (i := (k : Int)) (j := j) (v := v) ho k rfl (by omega) hj fun h' o' u' z' => by
    rw [E.fl_set l k j v y hk hj hy] at o'
    exact hK h' o' u' z'
  obtain ⟨a, ha', _, _, hst⟩ := this
  rw [ha] at ha'
  injection ha' with ha'
  subst ha'
  rw [add0, Int.toNat_natCast] at hst
  exact hst
theorem stR0 {h : Heap} {s : Sl} {l : List α} {k : Nat} {e : Addr} {K : Heap → Prop} {v : Value} (ho : Own h sz s (E.fl l)) (he : ElAt s sz k e) (hk : k < l.length) (y : α) (hy : E.cells y = (E.cells l[k]).set 0 v)
    (hK : ∀ h', Own h' sz s (E.fl (l.set k y)) → Upd (fun g => s.blk = some g) h h' → h'.size = h.size → K h') : St h e v K :=
  stR (j := 0) ho he hk E.pos y hy hK
/-! ## Cut, append -/
variable {P : Program} {t ty e : TypeId} {by_ : Nat}
theorem cutR {s : Sl} {h : Heap} {l : List α} {lo hi mx : Option Value} {K : Sl → Prop} (hT : ElemT P t e sz by_) (hr : RdS h sz s (E.fl l)) (a b m : Nat) (hlo : LoIs lo a) (hhi : HiIs hi s.n b)
    (hmx : (mx = none ∧ m = s.c) ∨ (HiIs mx s.c m ∧ hi ≠ none)) (h1 : a ≤ b) (hu : b ≤ l.length) (h2 : b ≤ m) (h3 : m ≤ s.c)
    (hk : ∀ s', RdS h sz s' (E.fl ((l.drop a).take (b - a))) → s'.n = b - a → s'.c = m - a → s'.blk = s.blk → K s') : Cut P t s lo hi mx K := by
  refine cut_rd hT hr a b m hlo hhi hmx h1 (by rw [rdn hr]; exact hu) h2 h3 fun s' r n c bl => hk s' ?_ n c bl
  rwa [E.fl_drop, E.fl_take] at r
theorem cutRO {s : Sl} {h : Heap} {l : List α} {lo hi mx : Option Value} {K : Sl → Prop} (hT : ElemT P t e sz by_) (hr : Own h sz s (E.fl l)) (a b m : Nat) (hlo : LoIs lo a) (hhi : HiIs hi s.n b)
    (hmx : (mx = none ∧ m = s.c) ∨ (HiIs mx s.c m ∧ hi ≠ none)) (h1 : a ≤ b) (hu : b ≤ l.length) (h2 : b ≤ m) (h3 : m ≤ s.c)
    (hk : ∀ s', Own h sz s' (E.fl ((l.drop a).take (b - a))) → s'.n = b - a → s'.c = m - a → s'.blk = s.blk → K s') : Cut P t s lo hi mx K := by
  refine cut_own hT hr a b m hlo hhi hmx h1 (by rw [ownn hr]; exact hu) h2 h3 fun s' r n c bl => hk s' ?_ n c bl
  rwa [E.fl_drop, E.fl_take] at r
theorem appR {s x : Sl} {h : Heap} {xs ys : List α} {K : Sl → Heap → Prop} (hT : ElemT P t e sz by_) (ho : Own h sz s (E.fl xs)) (hx : RdS h sz x (E.fl ys)) (hlen : (xs.length + ys.length) * by_ ≤ 140737488355328) (h63 : xs.length + ys.length ≤ 4611686018427387903)
    (hk : ∀ s' h', Own h' sz s' (E.fl (xs ++ ys)) → Grw h s h' s' → K s' h') : App P t ty s x h K := by
  have e1 := ownn ho
  have e2 := rdn hx
  refine app hT ho hx (E.fl_ones ys) (by rw [e1, e2]; exact hlen) (by rw [e1, e2]; exact h63) fun s' h' o n u b => hk s' h' ?_ ⟨u, b⟩
  rwa [E.fl_app]
/-- One element more. -/
theorem app1 {s : Sl} {h : Heap} {l : List α} {K : Sl → Heap → Prop} (hT : ElemT P t e sz by_) (x : α) (ho : Own h sz s (E.fl l)) (hlen : (l.length + 1) * by_ ≤ 140737488355328) (h63 : l.length + 1 ≤ 4611686018427387903)
    (hk : ∀ s' h', Own h' sz s' (E.fl (l ++ [x])) → Grw h s h' s' → K s' h') : Alloc h (.cells (E.cells x).toArray e) fun b h1 => App P t ty s ⟨some b, 1, 1⟩ h1 K := by
  refine alloc fun h1 b1 e1 z1 => ?_
  have r1 : RdS h1 sz ⟨some ⟨h.size, 0, none⟩, 1, 1⟩ (E.fl [x]) := by
    rw [E.fl_one]
    exact (Own.full b1 (sz := sz) (n := 1) (by rw [E.len, Nat.one_mul]) (by decide)).rd
  refine appR hT (ho.ext' e1) r1 hlen h63 fun s' h' o' g' => hk s' h' o' ?_
  exact (Grw.of_ext s e1).trans g'
end

/-! ## Footprints -/
/-- A step: only blocks of F are turned; what it holds behind it lay in F, or is new. -/
structure Stp (h : Heap) (F : Nat → Prop) (h' : Heap) (F' : Nat → Prop) : Prop where
  upd : Upd F h h'
  grow : ∀ g, F' g → F g ∨ h.size ≤ g
theorem Stp.refl (h : Heap) (F : Nat → Prop) : Stp h F h F := ⟨Upd.refl _ _, fun _ x => .inl x⟩
theorem Stp.trans {a b c : Heap} {F G H : Nat → Prop} (h1 : Stp a F b G) (h2 : Stp b G c H) : Stp a F c H := by
  refine ⟨h1.upd.trans h2.upd (fun _ _ x => x) fun k hk x => ?_, fun g hg => ?_⟩
  · rcases h1.grow k x with y | y
    · exact y
    · omega
  · rcases h2.grow g hg with y | y
    · exact h1.grow g y
    · exact .inr (Nat.le_trans h1.upd.size y)
/-- What lies apart from a step's blocks stays apart. -/
theorem Stp.apart {h h' : Heap} {F F' G : Nat → Prop} (hs : Stp h F h' F') (ha : ∀ g, F g → ¬ G g) (hG : ∀ g, G g → g < h.size) : ∀ g, F' g → ¬ G g := fun g hg x => by
  rcases hs.grow g hg with y | y
  · exact ha g y x
  · have := hG g x; omega
theorem Stp.from_ {h h' : Heap} {F F' : Nat → Prop} {B : Nat} (hs : Stp h F h' F') (hF : ∀ g, F g → B ≤ g) (hB : B ≤ h.size) : ∀ g, F' g → B ≤ g := fun g hg => by
  rcases hs.grow g hg with y | y
  · exact hF g y
  · exact Nat.le_trans hB y
theorem Stp.ext {h h' : Heap} {F F' : Nat → Prop} {B : Nat} (hs : Stp h F h' F') (hF : ∀ g, F g → B ≤ g) (hB : B ≤ h.size) : Ext B h h' := hs.upd.ext hB fun k hk x => by have := hF k x; omega
theorem Stp.of_ext {h h' : Heap} (F : Nat → Prop) (he : Ext h.size h h') : Stp h F h' F := ⟨he.upd _, fun _ x => .inl x⟩
def Sl.fp (s : Sl) : Nat → Prop := fun g => s.blk = some g
theorem Grw.stp {a b : Heap} {s t : Sl} (h : Grw a s b t) : Stp a s.fp b t.fp := ⟨h.upd, fun g hg => by
  rcases h.blk with e | e
  · exact .inl (by rw [Sl.fp, ← e]; exact hg)
  · exact .inr (e g hg)⟩
end Go.Proofs.Ytegbnmaglkpkjaa
