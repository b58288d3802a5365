/-
  Layer 18 (wire), over plain lists: bytes of commands, answers and messages, and what bytes tell.
-/
import Derived.Test.YtnognoiaakiepaaHa
namespace Go.Proofs.Ytnognoiaakiepaa
open Go

/-! ## Numbers, texts, truths: put and read -/
def i64ok (n : Int) : Prop := -9223372036854775808 ≤ n ∧ n ≤ 9223372036854775807
def rI (bad : Bool) (l : List UInt8) : Bool × List UInt8 × Int := mInt bad l (-9223372036854775808) 9223372036854775807
theorem wrap_u64' {n : Int} (h : i64ok n) : IntKind.i64.wrap (u64 n : Int) = n := by
  unfold i64ok at h
  rw [IntKind.wrap_i64]; unfold u64; omega
theorem mInt_put (n : Int) (l : List UInt8) (lo hi : Int) (hn : i64ok n) (h : lo ≤ n ∧ n ≤ hi) : mInt false (be8 n ++ l) lo hi = (false, l, n) := by
  have hl := be8_length n
  have ht : (be8 n ++ l).take 8 = be8 n := by rw [List.take_append_of_le_length (by omega), List.take_of_length_le (by omega)]
  have hd : (be8 n ++ l).drop 8 = l := by rw [List.drop_append_of_le_length (by omega), List.drop_of_length_le (by omega)]; rfl
  unfold mInt
  rw [if_neg (by rw [List.length_append]; simp; omega), ht, valBE_be8, wrap_u64' hn, if_pos h, hd]
theorem rI_put (n : Int) (l : List UInt8) (hn : i64ok n) : rI false (be8 n ++ l) = (false, l, n) := mInt_put n l _ _ hn hn
theorem valBE_be2' (k : Nat) (hk : k < 65536) : valBE (be2 k) = k := by
  show valBE [UInt8.ofNat (k / 256), UInt8.ofNat k] = k
  have e : [UInt8.ofNat (k / 256), UInt8.ofNat k] = ([] ++ [UInt8.ofNat (k / 256)]) ++ [UInt8.ofNat k] := rfl
  rw [e, valBE_snoc, valBE_snoc, UInt8.toNat_ofNat', UInt8.toNat_ofNat']
  simp [valBE]; omega
theorem mText_put (t l : List UInt8) (m : Int) (h1 : (t.length : Int) ≤ m) (h2 : t.length ≤ 65535) : mText false (txt t ++ l) m = (false, l, t) := by
  have e : txt t = be2 t.length ++ t := by unfold txt; rw [Nat.min_eq_left h2, List.take_of_length_le h2]
  rw [e, List.append_assoc]
  have ht : (be2 t.length ++ (t ++ l)).take 2 = be2 t.length := rfl
  have hd : (be2 t.length ++ (t ++ l)).drop 2 = t ++ l := rfl
  unfold mText
  rw [if_neg (by simp [be2]), ht, hd, valBE_be2' _ (by omega), if_neg (by omega), if_neg (by rw [List.length_append]; omega), List.take_left, List.drop_left]
theorem mBool_put (b : Bool) (l : List UInt8) : mBool false (tru b ++ l) = (false, l, b) := by
  cases b
  · show mBool false ((0 : UInt8) :: l) = _
    unfold mBool
    rw [if_neg (by simp)]
    rfl
  · show mBool false ((1 : UInt8) :: l) = _
    unfold mBool
    rw [if_neg (by simp)]
    rfl
theorem beN_valBE : ∀ (n : Nat) (xs : List UInt8), xs.length = n → beN (valBE xs) n = xs
  | 0, xs, h => by have := List.eq_nil_of_length_eq_zero h; subst this; rfl
  | n + 1, xs, h => by
    obtain ⟨ys, b, rfl⟩ : ∃ ys b, xs = ys ++ [b] := by
      have := take_snoc xs n (by omega)
      rw [List.take_of_length_le (by omega)] at this
      exact ⟨_, _, this⟩
    have hy : ys.length = n := by simpa using h
    have hb := b.toNat_lt
    rw [valBE_snoc, beN_succ, show (valBE ys * 256 + b.toNat) / 256 = valBE ys by omega, beN_valBE n ys hy]
    congr 2
    exact UInt8.toNat_inj.1 (by rw [UInt8.toNat_ofNat']; omega)
theorem be8_wrap {xs : List UInt8} (h : xs.length = 8) : be8 (IntKind.i64.wrap (valBE xs)) = xs := by
  have hv := valBE8 (l := xs) (k := 8) (Nat.le_refl _)
  rw [List.take_of_length_le (by omega)] at hv
  have e : u64 (IntKind.i64.wrap (valBE xs)) = valBE xs := by
    rw [IntKind.wrap_i64]; unfold u64; omega
  unfold be8
  rw [e]
  exact beN_valBE 8 xs h
theorem mInt_back {bad : Bool} {l : List UInt8} {lo hi : Int} (h : (mInt bad l lo hi).1 = false) : bad = false ∧ l = be8 (mInt bad l lo hi).2.2 ++ (mInt bad l lo hi).2.1 ∧ i64ok (mInt bad l lo hi).2.2 := by
  unfold mInt at h ⊢
  split at h
  · cases h
  · rename_i h1
    rw [if_neg h1]
    split at h
    · rename_i h2
      rw [if_pos h2]
      have hl : ¬ l.length < 8 := fun x => h1 (.inr x)
      refine ⟨by cases bad <;> simp at h1 ⊢, ?_, ?_⟩
      · show l = be8 (IntKind.i64.wrap (valBE (l.take 8))) ++ l.drop 8
        rw [be8_wrap (by rw [List.length_take]; omega), List.take_append_drop]
      · show i64ok (IntKind.i64.wrap (valBE (l.take 8)))
        unfold i64ok
        rw [IntKind.wrap_i64]; omega
    · cases h
theorem rI_back {bad : Bool} {l : List UInt8} (h : (rI bad l).1 = false) : bad = false ∧ l = be8 (rI bad l).2.2 ++ (rI bad l).2.1 ∧ i64ok (rI bad l).2.2 := mInt_back h
theorem be2_val {l : List UInt8} (h : 2 ≤ l.length) : be2 (valBE (l.take 2)) = l.take 2 := by
  have h0 := l[0].toNat_lt
  have h1 := l[1].toNat_lt
  rw [valBE_take2 h]
  unfold be2
  rw [show (l[0].toNat * 256 + l[1].toNat) / 256 = l[0].toNat by omega]
  have e : l.take 2 = [l[0], l[1]] := by rw [take_snoc l 1 (by omega), take_snoc l 0 (by omega)]; rfl
  rw [e]
  congr 1
  · exact UInt8.toNat_inj.1 (by rw [UInt8.toNat_ofNat']; omega)
  · congr 1
    exact UInt8.toNat_inj.1 (by rw [UInt8.toNat_ofNat']; omega)
theorem mText_back {bad : Bool} {l : List UInt8} {m : Int} (h : (mText bad l m).1 = false) : bad = false ∧ l = txt (mText bad l m).2.2 ++ (mText bad l m).2.1 ∧ ((mText bad l m).2.2.length : Int) ≤ m := by
  have h0 := mText_ok h
  refine ⟨h0.1, ?_, h0.2⟩
  have hv := valBE2 (l := l)
  unfold mText at h ⊢
  split at h
  · cases h
  · rename_i h1
    rw [if_neg h1]
    split at h
    · cases h
    · rename_i h2
      rw [if_neg h2]
      split at h
      · cases h
      · rename_i h3
        rw [if_neg h3]
        have hl : ¬ l.length < 2 := fun x => h1 (.inr x)
        show l = txt ((l.drop 2).take (valBE (l.take 2))) ++ (l.drop 2).drop (valBE (l.take 2))
        have e : ((l.drop 2).take (valBE (l.take 2))).length = valBE (l.take 2) := by rw [List.length_take]; omega
        have e2 : ((l.drop 2).take (valBE (l.take 2))).take 65535 = (l.drop 2).take (valBE (l.take 2)) := List.take_of_length_le (by omega)
        have e3 := be2_val (l := l) (by omega)
        unfold txt
        rw [e, e2, Nat.min_eq_left (by omega), e3, List.append_assoc, List.take_append_drop, List.take_append_drop]
theorem mBool_back {bad : Bool} {l : List UInt8} (h : (mBool bad l).1 = false) : bad = false ∧ l = tru (mBool bad l).2.2 ++ (mBool bad l).2.1 := by
  unfold mBool at h ⊢
  split at h
  · cases h
  · rename_i h1
    rw [if_neg h1]
    split at h
    · cases h
    · rename_i h2
      rw [if_neg h2]
      have hl : ¬ l.length < 1 := fun x => h1 (.inr x)
      refine ⟨by cases bad <;> simp at h1 ⊢, ?_⟩
      match l, hl with
      | [], hl => exact absurd (Nat.zero_lt_one) hl
      | b :: l, _ =>
        have e : valBE ((b :: l).take 1) = b.toNat := valBE_take1 (l := b :: l) (by simp)
        show b :: l = tru (valBE ((b :: l).take 1) == 1) ++ l
        rw [e] at h2 ⊢
        unfold tru
        have hb : b.toNat = 0 ∨ b.toNat = 1 := by omega
        rcases hb with hb | hb
        · rw [hb]
          show b :: l = (0 : UInt8) :: l
          rw [UInt8.toNat_inj.1 (show b.toNat = (0 : UInt8).toNat from hb)]
        · rw [hb]
          show b :: l = (1 : UInt8) :: l
          rw [UInt8.toNat_inj.1 (show b.toNat = (1 : UInt8).toNat from hb)]
theorem mInt_bad (l : List UInt8) (lo hi : Int) : (mInt true l lo hi).1 = true := by unfold mInt; rw [if_pos (.inl rfl)]
theorem mText_bad' (l : List UInt8) (m : Int) : (mText true l m).1 = true := by unfold mText; rw [if_pos (.inl rfl)]

section
variable {α : Type} {q : Bool × List UInt8 × α} {a : α} {r : List UInt8}
theorem nI {n : Int} (e : q = (false, be8 n ++ r, a)) (h : i64ok n) : rI q.1 q.2.1 = (false, r, n) := by rw [e]; exact rI_put n r h
theorem nT {t : List UInt8} {m : Int} (e : q = (false, txt t ++ r, a)) (h1 : (t.length : Int) ≤ m) (h2 : t.length ≤ 65535) : mText q.1 q.2.1 m = (false, r, t) := by rw [e]; exact mText_put t r m h1 h2
theorem nB {b : Bool} (e : q = (false, tru b ++ r, a)) : mBool q.1 q.2.1 = (false, r, b) := by rw [e]; exact mBool_put b r
end

/-! ## Commands -/
structure Cmd where
  kind : Int
  tx : Int
  att : Int
  stamp : Int
  op : Int
  key : List UInt8
  value : List UInt8
  mode : Int
  yes : Bool
def cmdB (c : Cmd) : List UInt8 := be8 c.kind ++ (be8 c.tx ++ (be8 c.att ++ (be8 c.stamp ++ (be8 c.op ++ (txt c.key ++ (txt c.value ++ (be8 c.mode ++ (tru c.yes ++ []))))))))
def Cmd.fits (c : Cmd) : Prop := c.key.length ≤ 16 ∧ c.value.length ≤ 32
def Cmd.i64 (c : Cmd) : Prop := i64ok c.kind ∧ i64ok c.tx ∧ i64ok c.att ∧ i64ok c.stamp ∧ i64ok c.op ∧ i64ok c.mode
def c1 (l : List UInt8) := rI false l
def c2 (l : List UInt8) := rI (c1 l).1 (c1 l).2.1
def c3 (l : List UInt8) := rI (c2 l).1 (c2 l).2.1
def c4 (l : List UInt8) := rI (c3 l).1 (c3 l).2.1
def c5 (l : List UInt8) := rI (c4 l).1 (c4 l).2.1
def c6 (l : List UInt8) := rI (c5 l).1 (c5 l).2.1
def c7 (l : List UInt8) := rI (c6 l).1 (c6 l).2.1
def cK (l : List UInt8) := mText (c5 l).1 (c5 l).2.1 16
def cV (l : List UInt8) := mText (cK l).1 (cK l).2.1 32
def cM (l : List UInt8) := rI (cV l).1 (cV l).2.1
def cY (l : List UInt8) := mBool (cM l).1 (cM l).2.1
def cmdV (l : List UInt8) : Cmd := ⟨(c1 l).2.2, (c2 l).2.2, (c3 l).2.2, (c4 l).2.2, (c5 l).2.2, (cK l).2.2, (cV l).2.2, (cM l).2.2, (cY l).2.2⟩
def cmdR (l : List UInt8) : Option Cmd := if (cY l).1 = false ∧ (cY l).2.1 = [] then some (cmdV l) else none
theorem cmd_put {c : Cmd} (h1 : c.fits) (h2 : c.i64) : cmdR (cmdB c) = some c := by
  obtain ⟨k1, k2⟩ := h1
  obtain ⟨i1, i2, i3, i4, i5, i6⟩ := h2
  generalize hl : cmdB c = l
  have e1 : c1 l = _ := (congrArg c1 hl.symm).trans (rI_put _ _ i1)
  have e2 : c2 l = _ := nI e1 i2
  have e3 : c3 l = _ := nI e2 i3
  have e4 : c4 l = _ := nI e3 i4
  have e5 : c5 l = _ := nI e4 i5
  have e6 : cK l = _ := nT e5 (by omega) (by omega)
  have e7 : cV l = _ := nT e6 (by omega) (by omega)
  have e8 : cM l = _ := nI e7 i6
  have e9 : cY l = _ := nB e8
  unfold cmdR cmdV
  rw [e1, e2, e3, e4, e5, e6, e7, e8, e9]
  rfl
theorem cmd_back {l : List UInt8} {c : Cmd} (h : cmdR l = some c) : c.fits ∧ c.i64 ∧ l = cmdB c := by
  unfold cmdR at h
  split at h
  · rename_i hc
    injection h with h
    subst h
    obtain ⟨h9, hr⟩ := hc
    obtain ⟨h8, e9⟩ := mBool_back h9
    obtain ⟨h7, e8, i6⟩ := rI_back h8
    obtain ⟨h6, e7, k2⟩ := mText_back h7
    obtain ⟨h5, e6, k1⟩ := mText_back h6
    obtain ⟨h4, e5, i5⟩ := rI_back h5
    obtain ⟨h3, e4, i4⟩ := rI_back h4
    obtain ⟨h2, e3, i3⟩ := rI_back h3
    obtain ⟨h1, e2, i2⟩ := rI_back h2
    obtain ⟨_, e1, i1⟩ := rI_back h1
    refine ⟨⟨?_, ?_⟩, ⟨i1, i2, i3, i4, i5, i6⟩, ?_⟩
    · exact Int.ofNat_le.1 k1
    · exact Int.ofNat_le.1 k2
    · refine e1.trans (congrArg _ (e2.trans (congrArg _ (e3.trans (congrArg _ (e4.trans (congrArg _ (e5.trans (congrArg _ (e6.trans (congrArg _ (e7.trans (congrArg _ (e8.trans (congrArg _ (e9.trans (congrArg _ hr)))))))))))))))))
  · cases h
theorem cmd_inj {c d : Cmd} (hc : c.fits) (hc' : c.i64) (hd : d.fits) (hd' : d.i64) (h : cmdB c = cmdB d) : c = d := by
  have h1 := cmd_put hc hc'
  have h2 := cmd_put hd hd'
  rw [h, h2] at h1
  exact (Option.some.inj h1).symm

/-! ## Answers -/
structure Rep where
  code : Int
  state : Int
  value : List UInt8
  has : Bool
def repB (r : Rep) : List UInt8 := be8 r.code ++ (be8 r.state ++ (txt r.value ++ (tru r.has ++ [])))
def Rep.fits (r : Rep) : Prop := r.value.length ≤ 32
def Rep.i64 (r : Rep) : Prop := i64ok r.code ∧ i64ok r.state
def rV (l : List UInt8) := mText (c2 l).1 (c2 l).2.1 32
def rH (l : List UInt8) := mBool (rV l).1 (rV l).2.1
def repV (l : List UInt8) : Rep := ⟨(c1 l).2.2, (c2 l).2.2, (rV l).2.2, (rH l).2.2⟩
def repR (l : List UInt8) : Option Rep := if (rH l).1 = false ∧ (rH l).2.1 = [] then some (repV l) else none
theorem rep_put {r : Rep} (h1 : r.fits) (h2 : r.i64) : repR (repB r) = some r := by
  have k1 : r.value.length ≤ 32 := h1
  obtain ⟨i1, i2⟩ := h2
  generalize hl : repB r = l
  have e1 : c1 l = _ := (congrArg c1 hl.symm).trans (rI_put _ _ i1)
  have e2 : c2 l = _ := nI e1 i2
  have e3 : rV l = _ := nT e2 (by omega) (by omega)
  have e4 : rH l = _ := nB e3
  unfold repR repV
  rw [e1, e2, e3, e4]
  rfl
theorem rep_back {l : List UInt8} {r : Rep} (h : repR l = some r) : r.fits ∧ r.i64 ∧ l = repB r := by
  unfold repR at h
  split at h
  · rename_i hc
    injection h with h
    subst h
    obtain ⟨h4, hr⟩ := hc
    obtain ⟨h3, e4⟩ := mBool_back h4
    obtain ⟨h2, e3, k1⟩ := mText_back h3
    obtain ⟨h1, e2, i2⟩ := rI_back h2
    obtain ⟨_, e1, i1⟩ := rI_back h1
    exact ⟨Int.ofNat_le.1 k1, ⟨i1, i2⟩, e1.trans (congrArg _ (e2.trans (congrArg _ (e3.trans (congrArg _ (e4.trans (congrArg _ hr)))))))⟩
  · cases h

/-! ## Messages -/
def entB (e : Ent) : List UInt8 := be8 e.t ++ txt e.d
def Ent.fits (e : Ent) : Prop := e.d.length ≤ 512
structure Msg where
  kind : Int
  frm : Int
  to : Int
  term : Int
  index : Int
  lterm : Int
  commit : Int
  yes : Bool
  es : List Ent
def msgB (m : Msg) : List UInt8 := be8 m.kind ++ (be8 m.frm ++ (be8 m.to ++ (be8 m.term ++ (be8 m.index ++ (be8 m.lterm ++ (be8 m.commit ++ (tru m.yes ++ (be8 (m.es.length : Int) ++ (m.es.flatMap entB ++ [])))))))))
def Msg.fits (m : Msg) : Prop := m.es.length ≤ 8 ∧ ∀ e ∈ m.es, e.fits
def Msg.i64 (m : Msg) : Prop := i64ok m.kind ∧ i64ok m.frm ∧ i64ok m.to ∧ i64ok m.term ∧ i64ok m.index ∧ i64ok m.lterm ∧ i64ok m.commit ∧ ∀ e ∈ m.es, i64ok e.t
def entT (bad : Bool) (l : List UInt8) := mText (rI bad l).1 (rI bad l).2.1 512
def entsM : Nat → Bool → List UInt8 → List Ent → Bool × List UInt8 × List Ent
  | 0, bad, l, acc => (bad, l, acc)
  | n + 1, bad, l, acc => entsM n (entT bad l).1 (entT bad l).2.1 (acc ++ [⟨(rI bad l).2.2, (entT bad l).2.2⟩])
theorem entT_bad (l : List UInt8) : (entT true l).1 = true := by unfold entT rI; rw [mInt_bad]; exact mText_bad' _ _
theorem entsM_bad : ∀ (n : Nat) (l : List UInt8) (acc : List Ent), (entsM n true l acc).1 = true
  | 0, _, _ => rfl
  | n + 1, l, acc => by unfold entsM; rw [entT_bad]; exact entsM_bad n _ _
theorem entsM_put : ∀ (es : List Ent) (rest : List UInt8) (acc : List Ent), (∀ e ∈ es, e.fits) → (∀ e ∈ es, i64ok e.t) → entsM es.length false (es.flatMap entB ++ rest) acc = (false, rest, acc ++ es)
  | [], rest, acc, _, _ => by simp [entsM]
  | e :: es, rest, acc, h1, h2 => by
    have k1 : e.d.length ≤ 512 := h1 e (List.mem_cons_self ..)
    have e0 : (e :: es).flatMap entB ++ rest = be8 e.t ++ (txt e.d ++ (es.flatMap entB ++ rest)) := by simp [entB]
    rw [e0]
    have e1 : rI false (be8 e.t ++ (txt e.d ++ (es.flatMap entB ++ rest))) = (false, _, e.t) := rI_put _ _ (h2 e (List.mem_cons_self ..))
    have e2 : entT false (be8 e.t ++ (txt e.d ++ (es.flatMap entB ++ rest))) = _ := nT e1 (by omega) (by omega)
    show entsM (es.length + 1) _ _ _ = _
    unfold entsM
    rw [e1, e2, entsM_put es rest _ (fun x hx => h1 x (List.mem_cons_of_mem _ hx)) fun x hx => h2 x (List.mem_cons_of_mem _ hx)]
    simp
theorem entsM_back : ∀ (n : Nat) (bad : Bool) (l : List UInt8) (acc : List Ent), (entsM n bad l acc).1 = false → bad = false ∧ ∃ es : List Ent, (entsM n bad l acc).2.2 = acc ++ es ∧ es.length = n ∧ l = es.flatMap entB ++ (entsM n bad l acc).2.1 ∧ (∀ e ∈ es, e.fits) ∧ ∀ e ∈ es, i64ok e.t
  | 0, bad, l, acc, h => ⟨h, [], by simp [entsM], rfl, rfl, (by simp), by simp⟩
  | n + 1, bad, l, acc, h => by
    unfold entsM at h ⊢
    obtain ⟨h1, es, e1, e2, e3, e4, e5⟩ := entsM_back n _ _ _ h
    obtain ⟨h2, e6, k6⟩ := mText_back h1
    obtain ⟨h3, e7, i7⟩ := rI_back h2
    refine ⟨h3, ⟨(rI bad l).2.2, (entT bad l).2.2⟩ :: es, by rw [e1]; simp, by simp [e2], ?_, ?_, ?_⟩
    · refine e7.trans ?_
      rw [List.flatMap_cons, List.append_assoc]
      show _ = (be8 _ ++ txt _) ++ _
      rw [List.append_assoc]
      exact congrArg _ (e6.trans (congrArg _ e3))
    · intro e he
      rcases List.mem_cons.1 he with rfl | he
      · exact Int.ofNat_le.1 k6
      · exact e4 e he
    · intro e he
      rcases List.mem_cons.1 he with rfl | he
      · exact i7
      · exact e5 e he
def mY (l : List UInt8) := mBool (c7 l).1 (c7 l).2.1
def mN (l : List UInt8) := mInt (mY l).1 (mY l).2.1 0 8
def mE (l : List UInt8) := entsM (mN l).2.2.toNat (mN l).1 (mN l).2.1 []
def msgV (l : List UInt8) : Msg := ⟨(c1 l).2.2, (c2 l).2.2, (c3 l).2.2, (c4 l).2.2, (c5 l).2.2, (c6 l).2.2, (c7 l).2.2, (mY l).2.2, (mE l).2.2⟩
def msgR (l : List UInt8) : Option Msg := if (mE l).1 = false ∧ (mE l).2.1 = [] then some (msgV l) else none
theorem msg_put {m : Msg} (h1 : m.fits) (h2 : m.i64) : msgR (msgB m) = some m := by
  obtain ⟨k1, k2⟩ := h1
  obtain ⟨i1, i2, i3, i4, i5, i6, i7, i8⟩ := h2
  generalize hl : msgB m = l
  have e1 : c1 l = _ := (congrArg c1 hl.symm).trans (rI_put _ _ i1)
  have e2 : c2 l = _ := nI e1 i2
  have e3 : c3 l = _ := nI e2 i3
  have e4 : c4 l = _ := nI e3 i4
  have e5 : c5 l = _ := nI e4 i5
  have e6 : c6 l = _ := nI e5 i6
  have e7 : c7 l = _ := nI e6 i7
  have e8 : mY l = _ := nB e7
  have e9 : mN l = (false, m.es.flatMap entB ++ [], (m.es.length : Int)) := by unfold mN; rw [e8]; exact mInt_put _ _ _ _ ⟨by omega, by omega⟩ ⟨by omega, by omega⟩
  have e10 : mE l = (false, [], m.es) := by
    unfold mE; rw [e9]
    have := entsM_put m.es [] [] k2 i8
    rw [List.nil_append] at this
    exact this
  unfold msgR msgV
  rw [e1, e2, e3, e4, e5, e6, e7, e8, e10]
  rfl
theorem msg_back {l : List UInt8} {m : Msg} (h : msgR l = some m) : m.fits ∧ m.i64 ∧ l = msgB m := by
  unfold msgR at h
  split at h
  · rename_i hc
    injection h with h
    subst h
    obtain ⟨h10, hr⟩ := hc
    obtain ⟨h9, es, q1, q2, q3, q4, q5⟩ := entsM_back _ _ _ _ h10
    obtain ⟨_, b1, b2⟩ := mInt_ok h9
    obtain ⟨h8, e9, _⟩ := mInt_back h9
    obtain ⟨h7, e8⟩ := mBool_back h8
    obtain ⟨h6, e7, i7⟩ := rI_back h7
    obtain ⟨h5, e6, i6⟩ := rI_back h6
    obtain ⟨h4, e5, i5⟩ := rI_back h5
    obtain ⟨h3, e4, i4⟩ := rI_back h4
    obtain ⟨h2, e3, i3⟩ := rI_back h3
    obtain ⟨h1, e2, i2⟩ := rI_back h2
    obtain ⟨_, e1, i1⟩ := rI_back h1
    have qe : (mE l).2.2 = es := q1
    have qn : ((mE l).2.2.length : Int) = (mN l).2.2 := by
      have b1' : 0 ≤ (mN l).2.2 := b1
      rw [qe, q2]; exact Int.toNat_of_nonneg b1'
    have b2' : (mN l).2.2 ≤ 8 := b2
    refine ⟨⟨?_, ?_⟩, ⟨i1, i2, i3, i4, i5, i6, i7, ?_⟩, ?_⟩
    · show (mE l).2.2.length ≤ 8
      omega
    · show ∀ e ∈ (mE l).2.2, e.fits
      rw [qe]; exact q4
    · show ∀ e ∈ (mE l).2.2, i64ok e.t
      rw [qe]; exact q5
    · refine e1.trans (congrArg _ (e2.trans (congrArg _ (e3.trans (congrArg _ (e4.trans (congrArg _ (e5.trans (congrArg _ (e6.trans (congrArg _ (e7.trans (congrArg _ (e8.trans (congrArg _ (e9.trans ?_))))))))))))))))
      show be8 (mN l).2.2 ++ (mN l).2.1 = be8 ((mE l).2.2.length : Int) ++ ((mE l).2.2.flatMap entB ++ [])
      rw [qn, qe]
      exact congrArg _ (q3.trans (congrArg _ hr))
  · cases h
end Go.Proofs.Ytnognoiaakiepaa
