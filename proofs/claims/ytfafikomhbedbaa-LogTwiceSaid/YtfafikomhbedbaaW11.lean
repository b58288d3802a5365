/-
  Layer 7 (log): contracts.
-/
import Derived.Test.YtfafikomhbedbaaRe
import Derived.Test.YtfafikomhbedbaaW2
import Derived.Test.YtfafikomhbedbaaSE
namespace Go.Proofs.Ytfafikomhbedbaa
open Go

/-! ## Entries -/
structure LE where
  term : Int
  data : ByteArray
def LE.cells (e : LE) : List Value := [.int .i64 e.term, .string e.data]
def cE (l : List LE) : List Value := l.flatMap LE.cells
theorem flat_take {α : Type} (f : α → List Value) (sz : Nat) (hf : ∀ x, (f x).length = sz) : ∀ (xs : List α) (n : Nat), (xs.flatMap f).take (n * sz) = (xs.take n).flatMap f
  | [], n => by simp
  | x :: xs, 0 => by simp
  | x :: xs, n + 1 => by
    simp only [List.flatMap_cons, List.take_succ_cons]
    rw [show (n + 1) * sz = (f x).length + n * sz by rw [hf, Nat.succ_mul]; omega, List.take_length_add_append, flat_take f sz hf xs n]
theorem flat_drop {α : Type} (f : α → List Value) (sz : Nat) (hf : ∀ x, (f x).length = sz) : ∀ (xs : List α) (n : Nat), (xs.flatMap f).drop (n * sz) = (xs.drop n).flatMap f
  | [], n => by simp
  | x :: xs, 0 => by simp
  | x :: xs, n + 1 => by
    simp only [List.flatMap_cons, List.drop_succ_cons]
    rw [show (n + 1) * sz = (f x).length + n * sz by rw [hf, Nat.succ_mul]; omega, List.drop_length_add_append, flat_drop f sz hf xs n]
theorem cE_length (l : List LE) : (cE l).length = l.length * 2 := flat_len LE.cells 2 (fun _ => rfl) l
theorem cE_append (a b : List LE) : cE (a ++ b) = cE a ++ cE b := by simp [cE]
theorem cE_take (l : List LE) (n : Nat) : (cE l).take (n * 2) = cE (l.take n) := flat_take LE.cells 2 (fun _ => rfl) l n
theorem cE_drop (l : List LE) (n : Nat) : (cE l).drop (n * 2) = cE (l.drop n) := flat_drop LE.cells 2 (fun _ => rfl) l n
theorem cE_one {l : List LE} : ∀ u ∈ cE l, u.oneCell' = true := by
  intro u hu
  obtain ⟨e, _, he⟩ := List.mem_flatMap.1 hu
  simp only [LE.cells, List.mem_cons, List.not_mem_nil, or_false] at he
  rcases he with rfl | rfl <;> rfl
theorem TE : ElemT Try.prog 75 73 2 24 := .of (by kernel_rfl)
theorem ZE : ZeroT Try.prog 73 [.int .i64 0, .string ByteArray.empty] := ⟨by kernel_rfl⟩
theorem own_nE {h : Heap} {s : Sl} {l : List LE} (ho : Own h 2 s (cE l)) : s.n = l.length := by have := ho.1; rw [cE_length] at this; omega
theorem rd_nE {h : Heap} {s : Sl} {l : List LE} (ho : RdS h 2 s (cE l)) : s.n = l.length := by have := ho.1; rw [cE_length] at this; omega
theorem ixE {h : Heap} {s : Sl} {l : List LE} {i : Int} {K : Addr → Prop} (hr : RdS h 2 s (cE l)) (k : Nat) (hi : i = (k : Int)) (hk : k < l.length)
    (hK : ∀ g o, (∀ j, j < 2 → cellH h ⟨g, o + j, none⟩ = l[k].cells[j]?) → K ⟨g, o, none⟩) : Ix s i 2 K := by
  subst hi
  have hlen := rd_nE hr
  refine ix hr (by omega) (by omega) (by decide) fun g o hb hc => hK g o fun j hj => ?_
  rw [hc j hj, Int.toNat_natCast]
  exact flat_get LE.cells 2 (fun _ => rfl) l k j hk hj
theorem ldE {k : Kd} {h : Heap} {g o : Nat} {cs : List Value} {K : k.T → Prop} (hc : ∀ j, j < 2 → cellH h ⟨g, o + j, none⟩ = cs[j]?) (x : k.T) (hx : cs[0]? = some (k.mk x)) (hK : K x) : Ld k h ⟨g, o, none⟩ K := ld x ((hc 0 (by decide)).trans hx) hK
theorem ldE1 {k : Kd} {h : Heap} {g o : Nat} {cs : List Value} {K : k.T → Prop} (hc : ∀ j, j < 2 → cellH h ⟨g, o + j, none⟩ = cs[j]?) (x : k.T) (hx : cs[1]? = some (k.mk x)) (hK : K x) : Ld k h ((⟨g, o, none⟩ : Addr).add 1) K := by
  rw [add0]; exact ld x ((hc 1 (by decide)).trans hx) hK

/-! ## The model -/
def fallsM : Int → List LE → Bool
  | _, [] => false
  | t, e :: es => if e.term < t then true else fallsM e.term es
def knownM : List LE → List LE → Nat
  | a :: xs, b :: ys => if a.term = b.term then knownM xs ys + 1 else 0
  | [], _ => 0
  | _ :: _, [] => 0
theorem knownM_le : ∀ (xs ys : List LE), knownM xs ys ≤ xs.length ∧ knownM xs ys ≤ ys.length
  | [], ys => by cases ys <;> exact ⟨Nat.zero_le _, Nat.zero_le _⟩
  | _ :: _, [] => ⟨Nat.zero_le _, Nat.zero_le _⟩
  | x :: xs, y :: ys => by
    unfold knownM
    split
    · have := knownM_le xs ys; simp only [List.length_cons]; omega
    · exact ⟨Nat.zero_le _, Nat.zero_le _⟩
def lastT (es : List LE) : Int := match es.getLast? with | some e => e.term | none => 0
theorem lastT_get {es : List LE} {k : Nat} (hk : k < es.length) (h : k + 1 = es.length) : lastT es = es[k].term := by
  unfold lastT
  rw [List.getLast?_eq_getElem?, show es.length - 1 = k by omega, List.getElem?_eq_getElem hk]

/-- A log: its struct's block, its slice, its entries; all of it lies behind B. -/
def LRep (B : Nat) (h : Heap) (d : Nat) (s : Sl) (es : List LE) : Prop :=
  (∃ t, Blk h d t [.slice s.a s.n s.c]) ∧ Own h 2 s (cE es) ∧ s.blk ≠ some d ∧ s.from_ B ∧ B ≤ d ∧ es.length ≤ 1024
theorem LRep.keep {B : Nat} {h h' : Heap} {d : Nat} {s : Sl} {xs : List LE} (hd : LRep B h d s xs) {G : Nat → Prop} (he : Upd G h h') (h0 : ¬ G d) (h1 : ∀ g, s.blk = some g → ¬ G g) : LRep B h' d s xs := by
  obtain ⟨⟨t, a1⟩, h2, h3, h4, h5, h6⟩ := hd
  exact ⟨⟨t, a1.upd he h0⟩, h2.upd he h1, h3, h4, h5, h6⟩
theorem LRep.ext {B : Nat} {h h' : Heap} {d : Nat} {s : Sl} {xs : List LE} (hd : LRep B h d s xs) (he : Ext h.size h h') : LRep B h' d s xs := hd.keep (he.upd fun _ => False) (fun x => x) fun _ _ x => x
theorem LRep.le {B : Nat} {h : Heap} {d : Nat} {s : Sl} {xs : List LE} (hd : LRep B h d s xs) : B ≤ h.size := by
  obtain ⟨⟨t, h1⟩, h2, h3, h4, h5, h6⟩ := hd
  have := h1.lt; omega
theorem LRep.dlt {B : Nat} {h : Heap} {d : Nat} {s : Sl} {xs : List LE} (hd : LRep B h d s xs) : d < h.size := by
  obtain ⟨⟨t, h1⟩, _⟩ := hd
  exact h1.lt

section
variable {B : Nat} {h : Heap} {d : Nat} {s : Sl} {es : List LE}
theorem Clone_E_ok {b : Sl} {R : Sl → Heap → Prop} (hb : RdS h 2 b (cE es)) (hx : es.length ≤ 1000000) (hR : ∀ r h', Own h' 2 r (cE es) → r.from_ h.size → Ext h.size h h' → R r h') : C_slices_Clone_api_Entry_api_Entry b h R := by
  refine A_slices_Clone_api_Entry_api_Entry ?_
  unfold S_slices_Clone_api_Entry_api_Entry
  have hbn := rd_nE hb
  refine brB (fun hn => ?_) fun hn => ?_
  · have ha : b.a = none := by simpa using hn
    have hx0 : es = [] := by
      apply List.eq_nil_of_length_eq_zero
      apply Nat.eq_zero_of_not_pos
      intro hp
      obtain ⟨g, o, ha', _⟩ := hb.2 (by rw [cE_length]; omega)
      rw [ha] at ha'; cases ha'
    subst hx0
    exact hR _ h (Own.nil _ _) (fun g hg => by simp [Sl.blk] at hg) (Ext.refl _ _)
  · refine alloc (cs := cE []) fun h2 b2 e2 z2 => ?_
    have o2 : Own h2 2 ⟨some ⟨h.size, 0, none⟩, 0, 0⟩ (cE []) := Own.full b2 (sz := 2) (n := 0) (by rfl) (by decide)
    refine app TE o2 (hb.ext' e2) cE_one (by show (0 + b.n) * 24 ≤ _; omega) (by show 0 + b.n ≤ _; omega) fun s3 h3 o3 n3 u3 b3 => ?_
    have hf3 : s3.from_ h.size := by
      rcases b3 with e | e
      · intro g hg; rw [e] at hg; simp [Sl.blk] at hg; omega
      · intro g hg; have := e g hg; omega
    rw [← cE_append] at o3
    exact hR s3 h3 o3 hf3 (e2.trans (u3.ext (by omega) fun g hg e => by simp [Sl.blk] at e; omega))
theorem log_New_ok {l : Sl} {R : Option Addr → Heap → Prop} (hl : RdS h 2 l (cE es)) (hx : es.length ≤ 1024) (hB : B ≤ h.size) (hR : ∀ h' d s, LRep B h' d s es → Ext h.size h h' → R (some ⟨d, 0, none⟩) h') : C_log_New l h R := by
  refine A_log_New ?_
  unfold S_log_New
  refine Clone_E_ok hl (by omega) fun r h1 o1 f1 e1 => ?_
  refine alloc (cs := [.slice r.a r.n r.c]) fun h' b e z => hR h' _ r ⟨⟨_, b⟩, o1.ext' e, fun x => by have := o1.below _ x; omega, fun g hg => by have := f1 g hg; omega, by have := e1.1; omega, hx⟩ (e1.trans (e.mono e1.1))
theorem log_Last_ok {R : Int → Int → Heap → Prop} (hd : LRep B h d s es) (hR : R (es.length : Int) (lastT es) h) : C_log_Log_Last (some ⟨d, 0, none⟩) h R := by
  refine A_log_Log_Last ?_
  unfold S_log_Log_Last
  obtain ⟨⟨t, hk1⟩, ho, hne, hfr, hBd, hm⟩ := hd
  have hsn := own_nE ho
  refine brF (nn (ldB hk1 s rfl (br beq_iff_eq (fun hc => ?_) fun hc => nn (ldB hk1 s rfl (let_ (nn (ldB hk1 s rfl ?_)))))))
  · have : es = [] := List.eq_nil_of_length_eq_zero (by omega)
    subst this
    exact hR
  · rw [w64 (by omega) (by omega)]
    refine ixE ho.rd (es.length - 1) (by omega) (by omega) fun g o hce => ldE hce _ rfl ?_
    rw [← lastT_get (by omega) (by omega), hsn]
    exact hR
theorem log_Term_ok {index : Int} {R : Int → Bool → Heap → Prop} (hd : LRep B h d s es) (h1 : (index < 0 ∨ (es.length : Int) < index) → R 0 false h) (h2 : index = 0 → R 0 true h) (h3 : ∀ (k : Nat) (hk : k < es.length), index = (k : Int) + 1 → R es[k].term true h) :
    C_log_Log_Term (some ⟨d, 0, none⟩) index h R := by
  refine A_log_Log_Term ?_
  unfold S_log_Log_Term
  obtain ⟨⟨t, hk1⟩, ho, hne, hfr, hBd, hm⟩ := hd
  have hsn := own_nE ho
  refine join0 (fun h' => h' = h ∧ 0 < index ∧ index ≤ es.length) (fun _ h' hJ => ?_) ?_
  · obtain ⟨rfl, hn0, hn1⟩ := hJ
    refine nn (ldB hk1 s rfl ?_)
    rw [w64 (by omega) (by omega)]
    exact ixE ho.rd (index - 1).toNat (by omega) (by omega) fun g o hce => ldE hce _ rfl (h3 _ (by omega) (by omega))
  · exact brF (brD (fun hc => h1 (.inl hc)) fun hc => nn (ldB hk1 s rfl (brD (fun hc2 => h1 (.inr (by omega))) fun hc2 => br beq_iff_eq (fun hc3 => h2 hc3) fun hc3 => ⟨rfl, by omega, by omega⟩)))
theorem log_All_ok {R : Sl → Heap → Prop} (hd : LRep B h d s es) (hR : ∀ r h', Own h' 2 r (cE es) → r.from_ h.size → Ext h.size h h' → R r h') : C_log_Log_All (some ⟨d, 0, none⟩) h R := by
  refine A_log_Log_All ?_
  unfold S_log_Log_All
  obtain ⟨⟨t, hk1⟩, ho, hne, hfr, hBd, hm⟩ := hd
  exact brF (nn (ldB hk1 s rfl (Clone_E_ok ho.rd (by omega) hR)))
theorem log_Younger_ok {index term : Int} {R : Bool → Heap → Prop} (hd : LRep B h d s es) (hR : R (decide (lastT es < term ∨ term = lastT es ∧ (es.length : Int) ≤ index)) h) : C_log_Log_Younger (some ⟨d, 0, none⟩) index term h R := by
  refine A_log_Log_Younger ?_
  unfold S_log_Log_Younger
  refine log_Last_ok hd (brY rfl (brD (fun hc => ?_) fun hc => br beq_iff_eq (fun hc2 => ?_) fun hc2 => ?_))
  · rwa [decide_eq_true (.inl hc)] at hR
  · rwa [show decide (index ≥ (es.length : Int)) = decide (lastT es < term ∨ term = lastT es ∧ (es.length : Int) ≤ index) by rw [decide_eq_decide]; omega]
  · rwa [decide_eq_false (by omega)] at hR
theorem log_Add_ok {t : Int} {dt : ByteArray} {R : Int → Heap → Prop} (hd : LRep B h d s es) (h1 : t < lastT es → ∀ h', LRep B h' d s es → Ext h.size h h' → R 5 h') (h2 : lastT es ≤ t → 1024 ≤ es.length → ∀ h', LRep B h' d s es → Ext h.size h h' → R 7 h')
    (h3 : lastT es ≤ t → es.length < 1024 → ∀ h' s', LRep B h' d s' (es ++ [⟨t, dt⟩]) → Ext B h h' → R 0 h') : C_log_Log_Add (some ⟨d, 0, none⟩) (t, dt, ()) h R := by
  refine A_log_Log_Add ?_
  unfold S_log_Log_Add
  refine alloc (cs := [.int .i64 t, .string dt]) fun h1' b1 e1 z1 => ?_
  have hd1 := hd.ext e1
  refine log_Last_ok hd1 (brF (ldB b1 t rfl (brD (fun hc => h1 hc h1' hd1 e1) fun hc => brD (fun hc2 => h2 (by omega) (by omega) h1' hd1 e1) fun hc2 => ?_)))
  have hle := hd.le
  have hle1 := hd1.le
  obtain ⟨⟨ty, hk1⟩, ho, hne, hfr, hBd, hm⟩ := hd1
  have hsn := own_nE ho
  refine nn (ldB hk1 s rfl (ldB b1 t rfl (ldF b1 dt rfl ?_)))
  refine alloc (cs := cE [⟨t, dt⟩]) fun h2' b2 e2 z2 => ?_
  have hk2 := hk1.upd (e2.upd fun _ => False) (fun x => x)
  refine ⟨ldB hk2 s rfl rfl, ?_⟩
  have r2 : RdS h2' 2 ⟨some ⟨h1'.size, 0, none⟩, 1, 1⟩ (cE [⟨t, dt⟩]) := (Own.full b2 (sz := 2) (n := 1) (by rfl) (by decide)).rd
  refine app TE (ho.ext' e2) r2 cE_one (by show (s.n + 1) * 24 ≤ _; omega) (by show s.n + 1 ≤ _; omega) fun s3 h3' o3 n3 u3 b3 => ?_
  have hdl := hk1.lt
  have hne2 : s3.blk ≠ some d := by
    rcases b3 with e | e
    · rw [e]; exact hne
    · intro hg; have := e d hg; omega
  have hfr2 : s3.from_ B := by
    rcases b3 with e | e
    · intro g hg; exact hfr g (by rw [← e]; exact hg)
    · intro g hg; have := e g hg; omega
  refine nn (stB (hk2.upd u3 fun e => hne e) (by simp) fun h4 b4 u4 z4 => ?_)
  refine h3 (by omega) (by omega) h4 s3 ⟨⟨ty, b4⟩, ?_, hne2, hfr2, hBd, by rw [List.length_append]; simp; omega⟩ ?_
  · rw [cE_append]; exact o3.upd u4 fun g hg e => hne2 (by rw [hg, e])
  · exact (((e1.mono hle).trans (e2.mono hle1)).trans (u3.ext (by omega) fun g hg e => by have := hfr g e; omega)).trans (u4.ext1 hBd (by have := u3.size; omega))
theorem log_falls_ok {t : Int} {x : Sl} {xs : List LE} {R : Bool → Heap → Prop} (hx : RdS h 2 x (cE xs)) (hlen : xs.length ≤ 1000000) (hR : ∀ h', Ext h.size h h' → R (fallsM t xs) h') : C_log_falls t x h R := by
  refine A_log_falls ?_
  unfold S_log_falls
  have hxn := rd_nE hx
  refine loop2 (s1 := .one (.int .i64)) (s2 := .one (.int .i64)) (fun (t1 i : Int) h1 => ∃ k : Nat, k ≤ xs.length ∧ i = k ∧ fallsM t xs = fallsM t1 (xs.drop k) ∧ Ext h.size h h1) (fun _ (i : Int) _ => (xs.length - i).toNat) ⟨0, Nat.zero_le _, rfl, rfl, Ext.refl _ _⟩ fun _ (t1 i : Int) h1 hI => ?_
  obtain ⟨k, hk, rfl, hf, he⟩ := hI
  refine brD (fun hc => ?_) fun hc => ?_
  · have hk2 : k < xs.length := by omega
    refine ixE (hx.ext' he) k rfl hk2 fun g o hce => ldE hce _ rfl (ldE1 hce _ rfl ?_)
    refine alloc (cs := [.int .i64 0, .string ⟨#[]⟩]) fun h2 b2 e2 z2 => ?_
    refine stB b2 (by simp) fun h3 b3 u3 z3 => stF b3 (by simp) fun h4 b4 u4 z4 => ?_
    have E4 : Ext h.size h h4 := he.trans (((e2.mono he.1).trans (u3.ext1 he.1 (by have := he.1; omega))).trans (u4.ext1 he.1 (by have := he.1; omega)))
    have hdr : xs.drop k = xs[k] :: xs.drop (k + 1) := List.drop_eq_getElem_cons hk2
    rw [hdr, fallsM] at hf
    refine ldB b4 xs[k].term rfl (brD (fun hlt => ?_) fun hlt => ldB b4 xs[k].term rfl ?_)
    · rw [if_pos hlt] at hf
      rw [← hf]
      exact hR h4 E4
    · rw [if_neg hlt] at hf
      rw [w64 (by omega) (by omega)]
      exact ⟨⟨k + 1, by omega, by omega, hf, E4⟩, by omega⟩
  · have : k = xs.length := by omega
    subst this
    rw [List.drop_length, fallsM] at hf
    rw [← hf]
    exact hR h1 he
theorem log_known_ok {index : Int} {x : Sl} {xs : List LE} {R : Int → Heap → Prop} (hd : LRep B h d s es) (idx : Nat) (hi : index = (idx : Int)) (hidx : idx ≤ es.length) (hx : RdS h 2 x (cE xs)) (hlen : xs.length ≤ 1000000)
    (hR : ∀ h', LRep B h' d s es → Ext h.size h h' → R (knownM (es.drop idx) xs : Nat) h') : C_log_Log_known (some ⟨d, 0, none⟩) index x h R := by
  refine A_log_Log_known ?_
  unfold S_log_Log_known
  have hxn := rd_nE hx
  have hm := hd.2.2.2.2.2
  subst hi
  refine loop1 (s1 := .one (.int .i64)) (fun (i : Int) h1 => ∃ k : Nat, k ≤ xs.length ∧ i = k ∧ knownM (es.drop idx) xs = k + knownM (es.drop (idx + k)) (xs.drop k) ∧ Ext h.size h h1) (fun (i : Int) _ => (xs.length - i).toNat) ⟨0, Nat.zero_le _, rfl, by simp, Ext.refl _ _⟩ fun _ (i : Int) h1 hI => ?_
  obtain ⟨k, hk, rfl, hf, he⟩ := hI
  refine brD (fun hc => ?_) fun hc => ?_
  · have hk2 : k < xs.length := by omega
    refine ixE (hx.ext' he) k rfl hk2 fun g o hce => ldE hce _ rfl (ldE1 hce _ rfl ?_)
    refine alloc (cs := [.int .i64 0, .string ⟨#[]⟩]) fun h2 b2 e2 z2 => ?_
    refine stB b2 (by simp) fun h3 b3 u3 z3 => stF b3 (by simp) fun h4 b4 u4 z4 => ?_
    have hle := he.1
    have E4 : Ext h.size h h4 := he.trans (((e2.mono hle).trans (u3.ext1 hle (by omega))).trans (u4.ext1 hle (by omega)))
    have hdr : xs.drop k = xs[k] :: xs.drop (k + 1) := List.drop_eq_getElem_cons hk2
    rw [w64 (n := (idx : Int) + 1) (by omega) (by omega), w64 (n := (idx : Int) + 1 + k) (by omega) (by omega)]
    refine log_Term_ok (hd.ext E4) (fun hb => ?_) (fun hb => by omega) fun j hj hj1 => ?_
    · refine brY rfl ?_
      have : es.drop (idx + k) = [] := List.drop_of_length_le (by omega)
      rw [this, hdr] at hf
      have h0 : knownM ([] : List LE) (xs[k] :: xs.drop (k + 1)) = 0 := by simp [knownM]
      rw [h0, Nat.add_zero] at hf
      have := hR h4 (hd.ext E4) E4
      rwa [hf] at this
    · obtain rfl : j = idx + k := by omega
      have hde : es.drop (idx + k) = es[idx + k] :: es.drop (idx + k + 1) := List.drop_eq_getElem_cons hj
      rw [hde, hdr, knownM] at hf
      refine brN rfl (ldB b4 xs[k].term rfl (brB (fun hne => ?_) fun hne => ?_))
      · rw [if_neg (by simpa using hne), Nat.add_zero] at hf
        have := hR h4 (hd.ext E4) E4
        rwa [hf] at this
      · rw [if_pos (by simpa using hne)] at hf
        rw [w64 (by omega) (by omega)]
        exact ⟨⟨k + 1, by omega, by omega, by rw [hf, ← Nat.add_assoc idx k 1]; omega, E4⟩, by omega⟩
  · have : k = xs.length := by omega
    subst this
    rw [List.drop_length] at hf
    have h0 : ∀ l : List LE, knownM l [] = 0 := fun l => by cases l <;> simp [knownM]
    rw [h0, Nat.add_zero] at hf
    have := hR h1 (hd.ext he) he
    rwa [hf, ← hxn] at this
theorem log_Put_ok {index term : Int} {x : Sl} {xs : List LE} {R : Int → Int → Heap → Prop} (hd : LRep B h d s es) (hx : RdS h 2 x (cE xs)) (hxc : x.n ≤ x.c) (hlen : xs.length ≤ 1000000)
    (h1 : (index < 0 ∨ (es.length : Int) < index) → R 0 6 h)
    (h2 : ∀ (k : Nat), k ≤ es.length → index = (k : Int) → (if h : 0 < k ∧ k - 1 < es.length then es[k - 1].term else 0) ≠ term → R 0 8 h)
    (h3 : ∀ (k : Nat), k ≤ es.length → index = (k : Int) → (if h : 0 < k ∧ k - 1 < es.length then es[k - 1].term else 0) = term → 
      (fallsM term xs = true → ∀ h', LRep B h' d s es → Ext h.size h h' → R 0 5 h') ∧
      (fallsM term xs = false → knownM (es.drop k) xs = xs.length → ∀ h', LRep B h' d s es → Ext h.size h h' → R 0 0 h') ∧
      (fallsM term xs = false → knownM (es.drop k) xs ≠ xs.length → 1024 < k + xs.length → ∀ h', LRep B h' d s es → Ext h.size h h' → R 0 7 h') ∧
      (fallsM term xs = false → knownM (es.drop k) xs ≠ xs.length → k + xs.length ≤ 1024 → ∀ h' s', LRep B h' d s' (es.take (k + knownM (es.drop k) xs) ++ xs.drop (knownM (es.drop k) xs)) → Ext B h h' → R ((k + knownM (es.drop k) xs + 1 : Nat) : Int) 0 h')) :
    C_log_Log_Put (some ⟨d, 0, none⟩) index term x h R := by
  refine A_log_Log_Put ?_
  unfold S_log_Log_Put
  have hm := hd.2.2.2.2.2
  have hxn := rd_nE hx
  refine brF ?_
  -- the part behind the look at the term
  have rest : ∀ (k : Nat), k ≤ es.length → index = (k : Int) → ∀ r : Int, r = (if h : 0 < k ∧ k - 1 < es.length then es[k - 1].term else 0) →
      (bif r != term then R 0 8 h else
        C_log_falls term x h fun (r2 : Bool) h_1 =>
        (bif r2 then R 0 5 h_1 else
          C_log_Log_known (some ⟨d, 0, none⟩) index x h_1 fun (r3 : Int) h_2 =>
          (bif r3 == (x.n : Int) then R 0 0 h_2 else
            (bif decide ((IntKind.i64.wrap (index + (x.n : Int))) > 1024) then R 0 7 h_2 else
              Nn (some (⟨d, 0, none⟩ : Addr)) fun p =>
              Ld .sl h_2 p fun (l1 : Sl) =>
              Cut Try.prog 75 l1 none (some (.int .i64 (IntKind.i64.wrap (index + r3)))) (some (.int .i64 (IntKind.i64.wrap (index + r3)))) fun s =>
              Cut Try.prog 75 x (some (.int .i64 r3)) none none fun s1 =>
              App Try.prog 75 75 s s1 h_2 fun s2 h_3 =>
              Nn (some (⟨d, 0, none⟩ : Addr)) fun p1 =>
              St h_3 p1 (.slice s2.a s2.n s2.c) fun h_4 =>
              R (IntKind.i64.wrap ((IntKind.i64.wrap (index + r3)) + 1)) 0 h_4)))) := by
    intro k hk hik r hr
    obtain rfl := hik
    refine brB (fun hne => ?_) fun hne => ?_
    · exact h2 k hk rfl (by rw [← hr]; simpa using hne)
    · obtain ⟨a5, a0, a7, aok⟩ := h3 k hk rfl (by rw [← hr]; simpa using hne)
      refine log_falls_ok hx hlen fun h1' e1 => brB (fun hf => a5 hf h1' (hd.ext e1) e1) fun hf => ?_
      obtain ⟨kl1, kl2⟩ := knownM_le (es.drop k) xs
      rw [List.length_drop] at kl1
      refine log_known_ok (hd.ext e1) k rfl hk (hx.ext' e1) hlen fun h2' d2 e2 => ?_
      have E2 : Ext h.size h h2' := e1.trans (e2.mono e1.1)
      generalize hn : knownM (es.drop k) xs = n at *
      refine br beq_iff_eq (fun hc => a0 hf (by omega) h2' d2 E2) fun hc => ?_
      rw [w64 (n := (k : Int) + x.n) (by omega) (by omega)]
      refine brD (fun hc2 => a7 hf (by omega) (by omega) h2' d2 E2) fun hc2 => ?_
      have hle := hd.le
      have hle2 := d2.le
      have hdlt := d2.dlt
      obtain ⟨⟨ty, hk1⟩, ho, hne', hfr, hBd, _⟩ := d2
      have hsn := own_nE ho
      have hsc := ho.2.1
      refine nn (ldB hk1 s rfl ?_)
      rw [w64 (n := (k : Int) + n) (by omega) (by omega)]
      refine cut_own TE ho 0 (k + n) (k + n) lo0 (hii (by omega)) (.inr ⟨hii (by omega), by simp⟩) (by omega) (by omega) (Nat.le_refl _) (by omega) fun s2 o2 n2 c2 b2 => ?_
      refine cut_rd TE (hx.ext' E2) n x.n x.c (loi rfl) (hi0 _) (.inl ⟨rfl, rfl⟩) (by omega) (Nat.le_refl _) hxc (Nat.le_refl _) fun s3 r3 n3 c3 b3 => ?_
      rw [Nat.zero_mul, List.drop_zero, Nat.sub_zero, cE_take] at o2
      rw [cE_drop, cE_take, List.take_of_length_le (by rw [List.length_drop]; omega)] at r3
      refine app TE o2 r3 cE_one (by omega) (by omega) fun s4 h4 o4 n4 u4 b4 => ?_
      have hne4 : s4.blk ≠ some d := by
        rcases b4 with e | e
        · rw [e, b2]; exact hne'
        · intro hg; have := e d hg; omega
      have hfr4 : s4.from_ B := by
        rcases b4 with e | e
        · intro g hg; exact hfr g (by rw [← b2, ← e]; exact hg)
        · intro g hg; have := e g hg; omega
      refine nn (stB (hk1.upd u4 fun e => hne' (by rw [← b2]; exact e)) (by simp) fun h5 b5 u5 z5 => ?_)
      rw [w64 (by omega) (by omega)]
      have := aok hf (by omega) (by omega) h5 s4 ⟨⟨ty, b5⟩, ?_, hne4, hfr4, hBd, ?_⟩ ?_
      · rwa [show ((k + n + 1 : Nat) : Int) = (k : Int) + n + 1 by omega] at this
      · rw [cE_append]; exact o4.upd u5 fun g hg e => hne4 (by rw [hg, e])
      · rw [List.length_append, List.length_take, List.length_drop]; omega
      · exact ((E2.mono hle).trans (u4.ext hle2 fun g hg e => by have := hfr g (by rw [← b2]; exact e); omega)).trans (u5.ext1 hBd (by have := u4.size; omega))
  refine log_Term_ok hd (fun hb => brY rfl (h1 hb)) (fun hb => brN rfl ?_) fun k hk hk1 => brN rfl ?_
  · exact rest 0 (Nat.zero_le _) (by omega) 0 (by simp)
  · exact rest (k + 1) (by omega) (by omega) _ (by simp [hk])
/-- How many a call of From yields. -/
theorem log_From_n {index most : Int} {R : Sl → Heap → Prop} (hd : LRep B h d s es) (hm1 : most ≤ 1000000) (hi : 1 ≤ index) (hi2 : index ≤ es.length) (hm : 1 ≤ most)
    (hR : ∀ r h', (r.n : Int) = (if most < es.length - index + 1 then most else es.length - index + 1) → LRep B h' d s es → Ext h.size h h' → R r h') : C_log_Log_From (some ⟨d, 0, none⟩) index most h R := by
  refine A_log_Log_From ?_
  unfold S_log_Log_From
  refine log_Last_ok hd (let_ ?_)
  have hd' := hd
  obtain ⟨⟨ty, hk1⟩, ho, hne', hfr, hBd, hmx⟩ := hd
  have hsn := own_nE ho
  have hsc := ho.2.1
  have e1 : (if 1 > index then 1 else index) = index := by rw [if_neg (by omega)]
  rw [e1]
  refine brN (decide_eq_false (by omega)) (brN (decide_eq_false (by omega)) (nn (ldB hk1 s rfl ?_)))
  rw [w64 (n := index - 1) (by omega) (by omega), w64 (n := (es.length : Int) - index) (by omega) (by omega), w64 (n := (es.length : Int) - index + 1) (by omega) (by omega)]
  generalize hc : (if most < (es.length : Int) - index + 1 then most else (es.length : Int) - index + 1) = c at *
  have e2 : (if (es.length : Int) - index + 1 < most then (es.length : Int) - index + 1 else most) = c := by rw [← hc]; split <;> split <;> omega
  rw [e2]
  have hc1 : 1 ≤ c ∧ c ≤ es.length - index + 1 := by rw [← hc]; split <;> omega
  rw [w64 (by omega) (by omega)]
  refine cut_rd TE ho.rd (index - 1).toNat ((index - 1).toNat + c.toNat) s.c (loi (by omega)) (hii (by omega)) (.inl ⟨rfl, rfl⟩) (by omega) (by omega) (by omega) (Nat.le_refl _) fun s1 r1 n1 _ _ => ?_
  rw [cE_drop, cE_take] at r1
  refine Clone_E_ok r1 (by rw [List.length_take]; omega) fun r h' o' f' e' => ?_
  refine hR r h' ?_ (hd'.ext e') e'
  have := own_nE o'
  rw [List.length_take, List.length_drop] at this
  omega
theorem log_Last_nil {R : Int → Int → Heap → Prop} (hR : R 0 0 h) : C_log_Log_Last none h R := A_log_Log_Last hR
theorem log_Put_nil {index term : Int} {x : Sl} {R : Int → Int → Heap → Prop} (hR : R 0 1 h) : C_log_Log_Put none index term x h R := A_log_Log_Put hR
theorem log_All_nil {R : Sl → Heap → Prop} (hR : R ⟨none, 0, 0⟩ h) : C_log_Log_All none h R := A_log_Log_All hR
theorem log_Younger_nil {index term : Int} {R : Bool → Heap → Prop} (hR : R false h) : C_log_Log_Younger none index term h R := by
  refine A_log_Log_Younger ?_
  unfold S_log_Log_Younger
  exact log_Last_nil (brN rfl hR)
theorem log_Add_nil {t : Int} {dt : ByteArray} {R : Int → Heap → Prop} (hR : ∀ h', Ext h.size h h' → R 1 h') : C_log_Log_Add none (t, dt, ()) h R := by
  refine A_log_Log_Add ?_
  unfold S_log_Log_Add
  exact alloc (cs := [.int .i64 t, .string dt]) fun h1 b1 e1 z1 => log_Last_nil (brY rfl (hR h1 e1))
end
end Go.Proofs.Ytfafikomhbedbaa
