/-
  Layer 30 (lease): contracts of the document's calls, one.
-/
import Derived.Test.YtegbnmaglkpkjaaL8
import Derived.Test.YtegbnmaglkpkjaaSLR
namespace Go.Proofs.Ytegbnmaglkpkjaa
open Go

def eI : Enc Int 1 := ⟨fun a => [.int .i64 a], fun _ => rfl, by decide, fun x u hu => by
  simp only [List.mem_cons, List.not_mem_nil, or_false] at hu
  subst hu; rfl⟩
def eG : Enc LG 3 := ⟨fun a => [.int .i64 a.from_, .int .i64 a.to, .int .i64 a.round], fun _ => rfl, by decide, fun x u hu => by
  simp only [List.mem_cons, List.not_mem_nil, or_false] at hu
  rcases hu with rfl | rfl | rfl <;> rfl⟩
theorem TI : ElemT Try.prog 51 3 1 8 := .of (by kernel_rfl)
theorem TGr : ElemT Try.prog 52 120 3 24 := .of (by kernel_rfl)
theorem TRP : ElemT Try.prog 53 118 4 32 := .of (by kernel_rfl)
/-- The document's rows in the heap. -/
structure RL where
  sc : Sl
  sr : Sl
  sb : Sl
  st : Sl
  sw : Sl
  sp : Sl
  sg : Sl
  sf : Sl
  C : List Int
  R : List Int
  B : List Int
  T : List Int
  W : List Int
  P : List Int
  G : List LG
  FL : List LPkt
def Sl.v' (s : Sl) : Value := .slice s.a s.n s.c
def refL (d : Nat) (ln sk : Int) (X : RL) : List Res :=
  [.blk d 55 [.int .i64 ln, .int .i64 sk, .slice X.sc.a X.sc.n X.sc.c, .slice X.sr.a X.sr.n X.sr.c, .slice X.sb.a X.sb.n X.sb.c, .slice X.st.a X.st.n X.st.c, .slice X.sw.a X.sw.n X.sw.c, .slice X.sp.a X.sp.n X.sp.c, .slice X.sg.a X.sg.n X.sg.c, .slice X.sf.a X.sf.n X.sf.c],
    .own X.sc 1 (eI.fl X.C), .own X.sr 1 (eI.fl X.R), .own X.sb 1 (eI.fl X.B), .own X.st 1 (eI.fl X.T), .own X.sw 1 (eI.fl X.W), .own X.sp 1 (eI.fl X.P), .own X.sg 3 (eG.fl X.G), .own X.sf 4 (ePkt.fl X.FL)]
section
variable {h0 h : Heap} {L : List Res} {s : Sl} {C : List Int} {k : Nat} {e : Addr}
theorem ldI {v : Int} {K : Int → Prop} (H : At h0 h L) (n : Nat) (hn : L[n]? = some (.own s 1 (eI.fl C))) (he : ElAt s 1 k e) (hk : k < C.length) (hv : cv C k = v) (hK : K v) : Ld (.int .i64) h e K :=
  ldEl0 (kd := .int .i64) (E := eI) H n hn he hk v (by rw [cv_get hk, hv]; rfl) hK
theorem stI {v : Int} {K : Heap → Prop} (H : At h0 h L) (n : Nat) (hn : L[n]? = some (.own s 1 (eI.fl C))) (he : ElAt s 1 k e) (hk : k < C.length) (hK : ∀ h', At h0 h' (L.set n (.own s 1 (eI.fl (C.set k v)))) → K h') : St h e (.int .i64 v) K :=
  stEl0 (E := eI) v H n hn he hk rfl hK
end
/-- The rows, and that they tell what the nodes hold. -/
def RefAt (h0 h : Heap) (d : Nat) (f : LF) (N : Int) (F : List Res) : Prop := ∃ X : RL, At h0 h (refL d f.len f.skew X ++ F) ∧ LR N f X.C X.R X.B X.T X.W X.P X.G ∧ X.FL = f.fl
section
variable {h0 h : Heap} {F : List Res} {d : Nat} {f : LF} {N : Int}
theorem ref30_Tick_ok {i : Int} {R : Int → Heap → Prop} (H : RefAt h0 h d f N F) (ho : LOk N f) (hb : (i < 0 ∨ (f.l.length : Int) ≤ i) → R 6 h)
    (hg : ∀ (k : Nat), i = k → (hk : k < f.l.length) → ∀ h', RefAt h0 h' d (tickM f k f.l[k]).1 N F → R (tickM f k f.l[k]).2 h') : C_ref30_Field_Tick (some ⟨d, 0, none⟩) i h R := by
  obtain ⟨X, H, Q, hX⟩ := H
  have hN := ho.N
  have h7 := ho.n7
  have hn := H.n 1 rfl
  have hlc := Q.lc
  refine A_ref30_Field_Tick ?_
  unfold S_ref30_Field_Tick
  refine join1 (s1 := .one .bool) (fun (b : Bool) g => b = decide (i < 0 ∨ (f.l.length : Int) ≤ i) ∧ g = h) (fun _ (b : Bool) g hJ => ?_) ?_
  · obtain ⟨rfl, rfl⟩ := hJ
    refine brD (fun hc => hb hc) fun hc => ?_
    obtain ⟨k, rfl⟩ : ∃ k : Nat, i = k := ⟨i.toNat, by omega⟩
    have hk : k < f.l.length := by omega
    have hg := hg k rfl hk
    have hx := ho.nd _ (List.getElem_mem hk)
    have hck : cv X.C k = f.l[k].clock := (Q.c k hk).trans (by rw [nd_get hk])
    repeat (first | with_reducible refine nn ?_ | with_reducible refine let_ ?_ | with_reducible refine brSome ?_ | with_reducible refine brF ?_ | with_reducible refine brT ?_ | ((with_reducible apply ldAt H 0); exact rfl; exact rfl) | ((with_reducible apply ldAt0 H 0); exact rfl; exact rfl) | ((with_reducible apply stAt H 0); exact rfl; exact rfl; intro h H) | ((with_reducible apply stAt0 H 0); exact rfl; exact rfl; intro h H) | ((with_reducible apply allocAt H); intro h b H) | ((with_reducible refine ⟨?_, ?_⟩); first | ((with_reducible apply ldAt H 0); exact rfl; exact rfl; exact rfl) | ((with_reducible apply ldAt0 H 0); exact rfl; exact rfl; exact rfl)))
    refine loop1 (s1 := .one (.int .i64)) (fun (x : Int) h1 => ∃ (j : Nat), x = j ∧ j ≤ f.l.length ∧ h1 = g ∧ ∀ m, (hm : m < f.l.length) → m < j → m ≠ k → f.l[k].clock + 1 - f.l[m].clock ≤ f.skew) (fun (x : Int) _ => (f.l.length - x).toNat)
      ⟨0, rfl, Nat.zero_le _, rfl, fun m _ hm => absurd hm (Nat.not_lt_zero _)⟩ fun _ (x : Int) h1 hI => ?_
    obtain ⟨j, rfl, hj, rfl, hp⟩ := hI
    refine brD (fun hc2 => ?_) fun hc2 => ?_
    · have hj2 : j < f.l.length := by omega
      have hy := ho.nd _ (List.getElem_mem hj2)
      have hcj : cv X.C j = f.l[j].clock := (Q.c j hj2).trans (by rw [nd_get hj2])
      refine ixAt H 1 rfl j rfl (by omega) fun e he => ?_
      refine ldI H 1 rfl he (by omega) hcj ?_
      have go_ : (j ≠ k → f.l[k].clock + 1 - f.l[j].clock ≤ f.skew) → ∃ (j_1 : Nat), IntKind.i64.wrap ((j : Int) + 1) = j_1 ∧ j_1 ≤ f.l.length ∧ h1 = h1 ∧ ∀ m, (hm : m < f.l.length) → m < j_1 → m ≠ k → f.l[k].clock + 1 - f.l[m].clock ≤ f.skew := fun hjk => by
        rw [w64 (by omega) (by omega)]
        refine ⟨j + 1, by omega, by omega, rfl, fun m hm hmj hmk => ?_⟩
        by_cases hmj2 : m < j
        · exact hp m hm hmj2 hmk
        · obtain rfl : m = j := by omega
          exact hjk hmk
      refine brB (fun hne => ?_) fun heq => ?_
      · have hjk : j ≠ k := by rw [bne_iff_ne] at hne; omega
        repeat (first | with_reducible refine nn ?_ | with_reducible refine let_ ?_ | with_reducible refine brSome ?_ | with_reducible refine brF ?_ | with_reducible refine brT ?_ | ((with_reducible apply ldAt H 0); exact rfl; exact rfl) | ((with_reducible apply ldAt0 H 0); exact rfl; exact rfl) | ((with_reducible apply stAt H 0); exact rfl; exact rfl; intro h H) | ((with_reducible apply stAt0 H 0); exact rfl; exact rfl; intro h H) | ((with_reducible apply allocAt H); intro h b H) | ((with_reducible refine ⟨?_, ?_⟩); first | ((with_reducible apply ldAt H 0); exact rfl; exact rfl; exact rfl) | ((with_reducible apply ldAt0 H 0); exact rfl; exact rfl; exact rfl)))
        refine ixAt H 1 rfl k rfl (by omega) fun e he => ?_
        refine ldI H 1 rfl he (by omega) hck ?_
        repeat (first | with_reducible refine nn ?_ | with_reducible refine let_ ?_ | with_reducible refine brSome ?_ | with_reducible refine brF ?_ | with_reducible refine brT ?_ | ((with_reducible apply ldAt H 0); exact rfl; exact rfl) | ((with_reducible apply ldAt0 H 0); exact rfl; exact rfl) | ((with_reducible apply stAt H 0); exact rfl; exact rfl; intro h H) | ((with_reducible apply stAt0 H 0); exact rfl; exact rfl; intro h H) | ((with_reducible apply allocAt H); intro h b H) | ((with_reducible refine ⟨?_, ?_⟩); first | ((with_reducible apply ldAt H 0); exact rfl; exact rfl; exact rfl) | ((with_reducible apply ldAt0 H 0); exact rfl; exact rfl; exact rfl)))
        rw [w64 (n := f.l[k].clock + 1) (by omega) (by omega), w64 (n := f.l[k].clock + 1 - f.l[j].clock) (by omega) (by omega)]
        refine brD (fun hgt => ?_) fun hle => ?_
        · have e : tickM f k f.l[k] = (f, 8) := by
            unfold tickM
            rw [if_neg fun hh => by have := hh j hj2 hjk; omega]
          rw [e] at hg
          exact hg _ ⟨X, H, Q, hX⟩
        · exact ⟨go_ fun _ => by omega, by rw [w64 (by omega) (by omega)]; omega⟩
      · have hjk : j = k := by rw [bne_eq_false_iff_eq] at heq; omega
        exact ⟨go_ fun hn => absurd hjk hn, by rw [w64 (by omega) (by omega)]; omega⟩
    · have hjl : j = f.l.length := by omega
      subst hjl
      have e : tickM f k f.l[k] = ({ f with l := f.l.set k { f.l[k] with clock := f.l[k].clock + 1 } }, 0) := by
        unfold tickM
        rw [if_pos fun m hm hmk => hp m hm hm hmk]
      rw [e] at hg
      repeat (first | with_reducible refine nn ?_ | with_reducible refine let_ ?_ | with_reducible refine brSome ?_ | with_reducible refine brF ?_ | with_reducible refine brT ?_ | ((with_reducible apply ldAt H 0); exact rfl; exact rfl) | ((with_reducible apply ldAt0 H 0); exact rfl; exact rfl) | ((with_reducible apply stAt H 0); exact rfl; exact rfl; intro h H) | ((with_reducible apply stAt0 H 0); exact rfl; exact rfl; intro h H) | ((with_reducible apply allocAt H); intro h b H) | ((with_reducible refine ⟨?_, ?_⟩); first | ((with_reducible apply ldAt H 0); exact rfl; exact rfl; exact rfl) | ((with_reducible apply ldAt0 H 0); exact rfl; exact rfl; exact rfl)))
      refine ixAt H 1 rfl k rfl (by omega) fun e he => ?_
      refine ldI H 1 rfl he (by omega) hck ?_
      refine ixAt H 1 rfl k rfl (by omega) fun e he => ?_
      rw [w64 (by omega) (by omega), ← hck]
      refine stI H 1 rfl he (by omega) fun h2 H2 => ?_
      exact hg _ ⟨{ X with C := X.C.set k (cv X.C k + 1) }, H2, Q.tick hk, hX⟩
  · refine brD (fun hc => ⟨(decide_eq_true (.inl hc)).symm, rfl⟩) fun hc => ?_
    repeat (first | with_reducible refine nn ?_ | with_reducible refine let_ ?_ | with_reducible refine brSome ?_ | with_reducible refine brF ?_ | with_reducible refine brT ?_ | ((with_reducible apply ldAt H 0); exact rfl; exact rfl) | ((with_reducible apply ldAt0 H 0); exact rfl; exact rfl) | ((with_reducible apply stAt H 0); exact rfl; exact rfl; intro h H) | ((with_reducible apply stAt0 H 0); exact rfl; exact rfl; intro h H) | ((with_reducible apply allocAt H); intro h b H) | ((with_reducible refine ⟨?_, ?_⟩); first | ((with_reducible apply ldAt H 0); exact rfl; exact rfl; exact rfl) | ((with_reducible apply ldAt0 H 0); exact rfl; exact rfl; exact rfl)))
    refine ⟨?_, rfl⟩
    rw [Bool.eq_iff_iff, decide_eq_true_iff, decide_eq_true_iff]
    omega
theorem ref30_Ask_ok {i : Int} {R : Int → Int → Heap → Prop} (H : RefAt h0 h d f N F) (ho : LOk N f) (hb : (i < 0 ∨ (f.l.length : Int) ≤ i) → R 0 6 h)
    (hg : ∀ (k : Nat), i = k → (hk : k < f.l.length) → ∀ h', RefAt h0 h' d (askM f k f.l[k]) N F → R (f.l[k].round + 1) 0 h') : C_ref30_Field_Ask (some ⟨d, 0, none⟩) i h R := by
  obtain ⟨X, H, Q, hX⟩ := H
  have hN := ho.N
  have h7 := ho.n7
  have hfl := ho.fl
  have hn := H.n 1 rfl
  have hlc := Q.lc
  have hlr := Q.lr
  have hlb := Q.lb
  refine A_ref30_Field_Ask ?_
  unfold S_ref30_Field_Ask
  refine join1 (s1 := .one .bool) (fun (b : Bool) g => b = decide (i < 0 ∨ (f.l.length : Int) ≤ i) ∧ g = h) (fun _ (b : Bool) g hJ => ?_) ?_
  · obtain ⟨rfl, rfl⟩ := hJ
    refine brD (fun hc => hb hc) fun hc => ?_
    obtain ⟨k, rfl⟩ : ∃ k : Nat, i = k := ⟨i.toNat, by omega⟩
    have hk : k < f.l.length := by omega
    have hg := hg k rfl hk
    have hx := ho.nd _ (List.getElem_mem hk)
    have hrk : cv X.R k = f.l[k].round := (Q.r k hk).trans (by rw [nd_get hk])
    repeat (first | with_reducible refine nn ?_ | with_reducible refine let_ ?_ | with_reducible refine brSome ?_ | with_reducible refine brF ?_ | with_reducible refine brT ?_ | ((with_reducible apply ldAt H 0); exact rfl; exact rfl) | ((with_reducible apply ldAt0 H 0); exact rfl; exact rfl) | ((with_reducible apply stAt H 0); exact rfl; exact rfl; intro h H) | ((with_reducible apply stAt0 H 0); exact rfl; exact rfl; intro h H) | ((with_reducible apply allocAt H); intro h b H) | ((with_reducible refine ⟨?_, ?_⟩); first | ((with_reducible apply ldAt H 0); exact rfl; exact rfl; exact rfl) | ((with_reducible apply ldAt0 H 0); exact rfl; exact rfl; exact rfl)))
    refine ixAt H 2 rfl k rfl (by omega) fun e he => ?_
    refine ldI H 2 rfl he (by omega) rfl ?_
    refine ixAt H 2 rfl k rfl (by omega) fun e he => ?_
    rw [w64 (by omega) (by omega)]
    refine stI H 2 rfl he (by omega) fun h1 H => ?_
    repeat (first | with_reducible refine nn ?_ | with_reducible refine let_ ?_ | with_reducible refine brSome ?_ | with_reducible refine brF ?_ | with_reducible refine brT ?_ | ((with_reducible apply ldAt H 0); exact rfl; exact rfl) | ((with_reducible apply ldAt0 H 0); exact rfl; exact rfl) | ((with_reducible apply stAt H 0); exact rfl; exact rfl; intro h H) | ((with_reducible apply stAt0 H 0); exact rfl; exact rfl; intro h H) | ((with_reducible apply allocAt H); intro h b H) | ((with_reducible refine ⟨?_, ?_⟩); first | ((with_reducible apply ldAt H 0); exact rfl; exact rfl; exact rfl) | ((with_reducible apply ldAt0 H 0); exact rfl; exact rfl; exact rfl)))
    refine ixAt H 1 rfl k rfl (by omega) fun e he => ?_
    refine ldI H 1 rfl he (by omega) rfl ?_
    refine ixAt H 3 rfl k rfl (by omega) fun e he => ?_
    refine stI H 3 rfl he (by omega) fun h2 H => ?_
    repeat (first | with_reducible refine nn ?_ | with_reducible refine let_ ?_ | with_reducible refine brSome ?_ | with_reducible refine brF ?_ | with_reducible refine brT ?_ | ((with_reducible apply ldAt H 0); exact rfl; exact rfl) | ((with_reducible apply ldAt0 H 0); exact rfl; exact rfl) | ((with_reducible apply stAt H 0); exact rfl; exact rfl; intro h H) | ((with_reducible apply stAt0 H 0); exact rfl; exact rfl; intro h H) | ((with_reducible apply allocAt H); intro h b H) | ((with_reducible refine ⟨?_, ?_⟩); first | ((with_reducible apply ldAt H 0); exact rfl; exact rfl; exact rfl) | ((with_reducible apply ldAt0 H 0); exact rfl; exact rfl; exact rfl)))
    have hrs : ∀ v, (X.R.set k v).length = X.R.length := fun v => List.length_set
    have hnew : cv (X.R.set k (cv X.R k + 1)) k = f.l[k].round + 1 := by rw [cv_set (by omega), if_pos rfl, hrk]
    refine loop1 (s1 := .one (.int .i64)) (fun (x : Int) h1 => ∃ (j : Nat) (sf : Sl), x = j ∧ j ≤ f.l.length ∧ At h0 h1 (refL d f.len f.skew { X with R := X.R.set k (cv X.R k + 1), B := X.B.set k (cv X.C k), sf := sf, FL := X.FL ++ (List.range j).map fun j : Nat => ⟨(k : Int), (j : Int), f.l[k].round + 1, false⟩ } ++ F)) (fun (x : Int) _ => (f.l.length - x).toNat)
      ⟨0, X.sf, rfl, Nat.zero_le _, by rw [List.range_zero, List.map_nil, List.append_nil]; exact H⟩ fun _ (x : Int) h3 hI => ?_
    obtain ⟨j, sf, rfl, hj, H⟩ := hI
    refine brD (fun hc2 => ?_) fun hc2 => ?_
    · have hj2 : j < f.l.length := by omega
      repeat (first | with_reducible refine nn ?_ | with_reducible refine let_ ?_ | with_reducible refine brSome ?_ | with_reducible refine brF ?_ | with_reducible refine brT ?_ | ((with_reducible apply ldAt H 0); exact rfl; exact rfl) | ((with_reducible apply ldAt0 H 0); exact rfl; exact rfl) | ((with_reducible apply stAt H 0); exact rfl; exact rfl; intro h H) | ((with_reducible apply stAt0 H 0); exact rfl; exact rfl; intro h H) | ((with_reducible apply allocAt H); intro h b H) | ((with_reducible refine ⟨?_, ?_⟩); first | ((with_reducible apply ldAt H 0); exact rfl; exact rfl; exact rfl) | ((with_reducible apply ldAt0 H 0); exact rfl; exact rfl; exact rfl)))
      refine ixAt H 2 rfl k rfl (by rw [hrs]; omega) fun e he => ?_
      refine ldI H 2 rfl he (by rw [hrs]; omega) hnew ?_
      refine allocAt (cs := ePkt.cells ⟨(k : Int), (j : Int), f.l[k].round + 1, false⟩) H fun h b H => ?_
      repeat (first | with_reducible refine nn ?_ | with_reducible refine let_ ?_ | with_reducible refine brSome ?_ | with_reducible refine brF ?_ | with_reducible refine brT ?_ | ((with_reducible apply ldAt H 1); exact rfl; exact rfl) | ((with_reducible apply ldAt0 H 1); exact rfl; exact rfl) | ((with_reducible apply stAt H 1); exact rfl; exact rfl; intro h H) | ((with_reducible apply stAt0 H 1); exact rfl; exact rfl; intro h H) | ((with_reducible apply allocAt H); intro h b H) | ((with_reducible refine ⟨?_, ?_⟩); first | ((with_reducible apply ldAt H 1); exact rfl; exact rfl; exact rfl) | ((with_reducible apply ldAt0 H 1); exact rfl; exact rfl; exact rfl)))
      have hlen : (X.FL ++ (List.range j).map fun j : Nat => (⟨(k : Int), (j : Int), f.l[k].round + 1, false⟩ : LPkt)).length = f.fl.length + j := by rw [List.length_append, List.length_map, List.length_range, hX]
      refine app1B (E := ePkt) TRP H 9 rfl 0 rfl ⟨(k : Int), (j : Int), f.l[k].round + 1, false⟩ rfl (by rw [hlen]; omega) (by rw [hlen]; omega) fun s' h H => ?_
      repeat (first | with_reducible refine nn ?_ | with_reducible refine let_ ?_ | with_reducible refine brSome ?_ | with_reducible refine brF ?_ | with_reducible refine brT ?_ | ((with_reducible apply ldAt H 1); exact rfl; exact rfl) | ((with_reducible apply ldAt0 H 1); exact rfl; exact rfl) | ((with_reducible apply stAt H 1); exact rfl; exact rfl; intro h H) | ((with_reducible apply stAt0 H 1); exact rfl; exact rfl; intro h H) | ((with_reducible apply allocAt H); intro h b H) | ((with_reducible refine ⟨?_, ?_⟩); first | ((with_reducible apply ldAt H 1); exact rfl; exact rfl; exact rfl) | ((with_reducible apply ldAt0 H 1); exact rfl; exact rfl; exact rfl)))
      rw [w64 (n := (j : Int) + 1) (by omega) (by omega)]
      refine ⟨⟨j + 1, s', by omega, by omega, ?_⟩, by omega⟩
      rw [List.range_succ, List.map_append, ← List.append_assoc]
      exact H.tail
    · obtain rfl : j = f.l.length := by omega
      repeat (first | with_reducible refine nn ?_ | with_reducible refine let_ ?_ | with_reducible refine brSome ?_ | with_reducible refine brF ?_ | with_reducible refine brT ?_ | ((with_reducible apply ldAt H 0); exact rfl; exact rfl) | ((with_reducible apply ldAt0 H 0); exact rfl; exact rfl) | ((with_reducible apply stAt H 0); exact rfl; exact rfl; intro h H) | ((with_reducible apply stAt0 H 0); exact rfl; exact rfl; intro h H) | ((with_reducible apply allocAt H); intro h b H) | ((with_reducible refine ⟨?_, ?_⟩); first | ((with_reducible apply ldAt H 0); exact rfl; exact rfl; exact rfl) | ((with_reducible apply ldAt0 H 0); exact rfl; exact rfl; exact rfl)))
      refine ixAt H 2 rfl k rfl (by rw [hrs]; omega) fun e he => ?_
      refine ldI H 2 rfl he (by rw [hrs]; omega) hnew ?_
      exact hg _ ⟨_, H, Q.ask hk, by show X.FL ++ _ = f.fl ++ _; rw [hX]⟩
  · refine brD (fun hc => ⟨(decide_eq_true (.inl hc)).symm, rfl⟩) fun hc => ?_
    repeat (first | with_reducible refine nn ?_ | with_reducible refine let_ ?_ | with_reducible refine brSome ?_ | with_reducible refine brF ?_ | with_reducible refine brT ?_ | ((with_reducible apply ldAt H 0); exact rfl; exact rfl) | ((with_reducible apply ldAt0 H 0); exact rfl; exact rfl) | ((with_reducible apply stAt H 0); exact rfl; exact rfl; intro h H) | ((with_reducible apply stAt0 H 0); exact rfl; exact rfl; intro h H) | ((with_reducible apply allocAt H); intro h b H) | ((with_reducible refine ⟨?_, ?_⟩); first | ((with_reducible apply ldAt H 0); exact rfl; exact rfl; exact rfl) | ((with_reducible apply ldAt0 H 0); exact rfl; exact rfl; exact rfl)))
    refine ⟨?_, rfl⟩
    rw [Bool.eq_iff_iff, decide_eq_true_iff, decide_eq_true_iff]
    omega
/-- A slice, and two that were cut out of it. -/
def cutRes (sz : Nat) (s : Sl) (xs : List Value) (s1 : Sl) (ys : List Value) (s2 : Sl) (zs : List Value) (b1 : s1.blk = s.blk) (b2 : s2.blk = s.blk) : Res :=
  .any (fun g => s.blk = some g) (fun h => Own h sz s xs ∧ RdS h sz s1 ys ∧ RdS h sz s2 zs)
    (fun _ _ hs hk ⟨o, r1, r2⟩ => ⟨Own.keep o hs hk, RdS.keep r1 fun g hg hl => hk g (b1 ▸ hg) hl, RdS.keep r2 fun g hg hl => hk g (b2 ▸ hg) hl⟩)
    (fun _ ⟨o, _, _⟩ g hg => Own.below o g hg)
theorem ref30_Drop_ok {X : RL} {ln sk i : Int} {R : Int → Heap → Prop} (H : At h0 h (refL d ln sk X ++ F)) (hlen : X.FL.length ≤ 10000000) (hb : (i < 0 ∨ (X.FL.length : Int) ≤ i) → R 6 h)
    (hg : ∀ (k : Nat), i = k → k < X.FL.length → ∀ h' sf', At h0 h' (refL d ln sk { X with sf := sf', FL := X.FL.take k ++ X.FL.drop (k + 1) } ++ F) → R 0 h') : C_ref30_Field_Drop (some ⟨d, 0, none⟩) i h R := by
  have hn := H.n 8 rfl
  refine A_ref30_Field_Drop ?_
  unfold S_ref30_Field_Drop
  refine join1 (s1 := .one .bool) (fun (b : Bool) g => b = decide (i < 0 ∨ (X.FL.length : Int) ≤ i) ∧ g = h) (fun _ (b : Bool) g hJ => ?_) ?_
  · obtain ⟨rfl, rfl⟩ := hJ
    refine brD (fun hc => hb hc) fun hc => ?_
    obtain ⟨k, rfl⟩ : ∃ k : Nat, i = k := ⟨i.toNat, by omega⟩
    have hk : k < X.FL.length := by omega
    have hg := hg k rfl hk
    have hcap : X.sf.n ≤ X.sf.c := (H.own 8 rfl).2.1
    repeat (first | with_reducible refine nn ?_ | with_reducible refine let_ ?_ | with_reducible refine brSome ?_ | with_reducible refine brF ?_ | with_reducible refine brT ?_ | ((with_reducible apply ldAt H 0); exact rfl; exact rfl) | ((with_reducible apply ldAt0 H 0); exact rfl; exact rfl) | ((with_reducible apply stAt H 0); exact rfl; exact rfl; intro h H) | ((with_reducible apply stAt0 H 0); exact rfl; exact rfl; intro h H) | ((with_reducible apply allocAt H); intro h b H) | ((with_reducible refine ⟨?_, ?_⟩); first | ((with_reducible apply ldAt H 0); exact rfl; exact rfl; exact rfl) | ((with_reducible apply ldAt0 H 0); exact rfl; exact rfl; exact rfl)))
    refine cutR (E := ePkt) TRP (H.rdo 8 rfl) 0 k X.sf.c lo0 (hii rfl) (.inl ⟨rfl, rfl⟩) (Nat.zero_le _) (by omega) (by omega) (Nat.le_refl _) fun s1 r1 _ _ bl1 => ?_
    repeat (first | with_reducible refine nn ?_ | with_reducible refine let_ ?_ | with_reducible refine brSome ?_ | with_reducible refine brF ?_ | with_reducible refine brT ?_ | ((with_reducible apply ldAt H 0); exact rfl; exact rfl) | ((with_reducible apply ldAt0 H 0); exact rfl; exact rfl) | ((with_reducible apply stAt H 0); exact rfl; exact rfl; intro h H) | ((with_reducible apply stAt0 H 0); exact rfl; exact rfl; intro h H) | ((with_reducible apply allocAt H); intro h b H) | ((with_reducible refine ⟨?_, ?_⟩); first | ((with_reducible apply ldAt H 0); exact rfl; exact rfl; exact rfl) | ((with_reducible apply ldAt0 H 0); exact rfl; exact rfl; exact rfl)))
    rw [w64 (by omega) (by omega)]
    refine cutR (E := ePkt) TRP (H.rdo 8 rfl) (k + 1) X.FL.length X.sf.c (loi rfl) (by rw [← hn]; exact hi0 _) (.inl ⟨rfl, rfl⟩) (by omega) (Nat.le_refl _) (by omega) (Nat.le_refl _) fun s2 r2 _ _ bl2 => ?_
    have e1 : (X.FL.drop 0).take (k - 0) = X.FL.take k := by rw [List.drop_zero, Nat.sub_zero]
    have e2 : (X.FL.drop (k + 1)).take (X.FL.length - (k + 1)) = X.FL.drop (k + 1) := List.take_of_length_le (by rw [List.length_drop]; exact Nat.le_refl _)
    rw [e1] at r1
    rw [e2] at r2
    have H := H.as_ 8 rfl (cutRes 4 X.sf (ePkt.fl X.FL) s1 (ePkt.fl (X.FL.take k)) s2 (ePkt.fl (X.FL.drop (k + 1))) bl1 bl2) ⟨H.own 8 rfl, r1, r2⟩ fun _ hg => hg
    refine allocAt (cs := []) H fun h1 b H => ?_
    repeat (first | with_reducible refine nn ?_ | with_reducible refine let_ ?_ | with_reducible refine brSome ?_ | with_reducible refine brF ?_ | with_reducible refine brT ?_ | ((with_reducible apply ldAt H 1); exact rfl; exact rfl) | ((with_reducible apply ldAt0 H 1); exact rfl; exact rfl) | ((with_reducible apply stAt H 1); exact rfl; exact rfl; intro h H) | ((with_reducible apply stAt0 H 1); exact rfl; exact rfl; intro h H) | ((with_reducible apply allocAt H); intro h b H) | ((with_reducible refine ⟨?_, ?_⟩); first | ((with_reducible apply ldAt H 1); exact rfl; exact rfl; exact rfl) | ((with_reducible apply ldAt0 H 1); exact rfl; exact rfl; exact rfl)))
    have H := H.as_ 0 rfl (.own ⟨some ⟨b, 0, none⟩, 0, 0⟩ 4 (ePkt.fl [])) (Own.full (H.get 0 rfl : Blk h1 b _ []) (sz := 4) (n := 0) rfl (by decide)) (fun g hg => by have hg : some b = some g := hg; injection hg with hg; exact hg.symm)
    refine appAt (E := ePkt) (ys := X.FL.take k) TRP H 0 rfl (H.get 9 rfl).2.1 (by simp; omega) (by simp; omega) fun s3 h2 H => ?_
    repeat (first | with_reducible refine nn ?_ | with_reducible refine let_ ?_ | with_reducible refine brSome ?_ | with_reducible refine brF ?_ | with_reducible refine brT ?_ | ((with_reducible apply ldAt H 1); exact rfl; exact rfl) | ((with_reducible apply ldAt0 H 1); exact rfl; exact rfl) | ((with_reducible apply stAt H 1); exact rfl; exact rfl; intro h H) | ((with_reducible apply stAt0 H 1); exact rfl; exact rfl; intro h H) | ((with_reducible apply allocAt H); intro h b H) | ((with_reducible refine ⟨?_, ?_⟩); first | ((with_reducible apply ldAt H 1); exact rfl; exact rfl; exact rfl) | ((with_reducible apply ldAt0 H 1); exact rfl; exact rfl; exact rfl)))
    refine appAt (E := ePkt) (ys := X.FL.drop (k + 1)) TRP H 0 rfl (H.get 9 rfl).2.2 (by simp; omega) (by simp; omega) fun s4 h3 H => ?_
    repeat (first | with_reducible refine nn ?_ | with_reducible refine let_ ?_ | with_reducible refine brSome ?_ | with_reducible refine brF ?_ | with_reducible refine brT ?_ | ((with_reducible apply ldAt H 1); exact rfl; exact rfl) | ((with_reducible apply ldAt0 H 1); exact rfl; exact rfl) | ((with_reducible apply stAt H 1); exact rfl; exact rfl; intro h H) | ((with_reducible apply stAt0 H 1); exact rfl; exact rfl; intro h H) | ((with_reducible apply allocAt H); intro h b H) | ((with_reducible refine ⟨?_, ?_⟩); first | ((with_reducible apply ldAt H 1); exact rfl; exact rfl; exact rfl) | ((with_reducible apply ldAt0 H 1); exact rfl; exact rfl; exact rfl)))
    rw [List.nil_append] at H
    refine hg _ s4 ?_
    exact ((H.mv 1 8).del 9)
  · refine brD (fun hc => ⟨(decide_eq_true (.inl hc)).symm, rfl⟩) fun hc => ?_
    repeat (first | with_reducible refine nn ?_ | with_reducible refine let_ ?_ | with_reducible refine brSome ?_ | with_reducible refine brF ?_ | with_reducible refine brT ?_ | ((with_reducible apply ldAt H 0); exact rfl; exact rfl) | ((with_reducible apply ldAt0 H 0); exact rfl; exact rfl) | ((with_reducible apply stAt H 0); exact rfl; exact rfl; intro h H) | ((with_reducible apply stAt0 H 0); exact rfl; exact rfl; intro h H) | ((with_reducible apply allocAt H); intro h b H) | ((with_reducible refine ⟨?_, ?_⟩); first | ((with_reducible apply ldAt H 0); exact rfl; exact rfl; exact rfl) | ((with_reducible apply ldAt0 H 0); exact rfl; exact rfl; exact rfl)))
    refine ⟨?_, rfl⟩
    rw [Bool.eq_iff_iff, decide_eq_true_iff, decide_eq_true_iff]
    omega
theorem ref30_Double_ok {X : RL} {ln sk i : Int} {R : Int → Heap → Prop} (H : At h0 h (refL d ln sk X ++ F)) (hlen : X.FL.length ≤ 10000000) (hb : (i < 0 ∨ (X.FL.length : Int) ≤ i) → R 6 h)
    (hg : ∀ (k : Nat), i = k → (hk : k < X.FL.length) → ∀ h' sf', At h0 h' (refL d ln sk { X with sf := sf', FL := X.FL ++ [X.FL[k]] } ++ F) → R 0 h') : C_ref30_Field_Double (some ⟨d, 0, none⟩) i h R := by
  have hn := H.n 8 rfl
  refine A_ref30_Field_Double ?_
  unfold S_ref30_Field_Double
  refine join1 (s1 := .one .bool) (fun (b : Bool) g => b = decide (i < 0 ∨ (X.FL.length : Int) ≤ i) ∧ g = h) (fun _ (b : Bool) g hJ => ?_) ?_
  · obtain ⟨rfl, rfl⟩ := hJ
    refine brD (fun hc => hb hc) fun hc => ?_
    obtain ⟨k, rfl⟩ : ∃ k : Nat, i = k := ⟨i.toNat, by omega⟩
    have hk : k < X.FL.length := by omega
    have hg := hg k rfl hk
    repeat (first | with_reducible refine nn ?_ | with_reducible refine let_ ?_ | with_reducible refine brSome ?_ | with_reducible refine brF ?_ | with_reducible refine brT ?_ | ((with_reducible apply ldAt H 0); exact rfl; exact rfl) | ((with_reducible apply ldAt0 H 0); exact rfl; exact rfl) | ((with_reducible apply stAt H 0); exact rfl; exact rfl; intro h H) | ((with_reducible apply stAt0 H 0); exact rfl; exact rfl; intro h H) | ((with_reducible apply allocAt H); intro h b H) | ((with_reducible refine ⟨?_, ?_⟩); first | ((with_reducible apply ldAt H 0); exact rfl; exact rfl; exact rfl) | ((with_reducible apply ldAt0 H 0); exact rfl; exact rfl; exact rfl)))
    refine ixAt (E := ePkt) H 8 rfl k rfl hk fun e he => ?_
    refine ldEl0 (E := ePkt) H 8 rfl he hk X.FL[k].from_ rfl ?_
    refine ldEl (E := ePkt) (j := 1) H 8 rfl he hk X.FL[k].to rfl ?_
    refine ldEl (E := ePkt) (j := 2) H 8 rfl he hk X.FL[k].round rfl ?_
    refine ldEl (E := ePkt) (kd := .bool) (j := 3) H 8 rfl he hk X.FL[k].answer rfl ?_
    refine allocAt (cs := ePkt.cells X.FL[k]) H fun h b H => ?_
    repeat (first | with_reducible refine nn ?_ | with_reducible refine let_ ?_ | with_reducible refine brSome ?_ | with_reducible refine brF ?_ | with_reducible refine brT ?_ | ((with_reducible apply ldAt H 1); exact rfl; exact rfl) | ((with_reducible apply ldAt0 H 1); exact rfl; exact rfl) | ((with_reducible apply stAt H 1); exact rfl; exact rfl; intro h H) | ((with_reducible apply stAt0 H 1); exact rfl; exact rfl; intro h H) | ((with_reducible apply allocAt H); intro h b H) | ((with_reducible refine ⟨?_, ?_⟩); first | ((with_reducible apply ldAt H 1); exact rfl; exact rfl; exact rfl) | ((with_reducible apply ldAt0 H 1); exact rfl; exact rfl; exact rfl)))
    refine app1B (E := ePkt) TRP H 9 rfl 0 rfl X.FL[k] rfl (by omega) (by omega) fun s' h H => ?_
    repeat (first | with_reducible refine nn ?_ | with_reducible refine let_ ?_ | with_reducible refine brSome ?_ | with_reducible refine brF ?_ | with_reducible refine brT ?_ | ((with_reducible apply ldAt H 1); exact rfl; exact rfl) | ((with_reducible apply ldAt0 H 1); exact rfl; exact rfl) | ((with_reducible apply stAt H 1); exact rfl; exact rfl; intro h H) | ((with_reducible apply stAt0 H 1); exact rfl; exact rfl; intro h H) | ((with_reducible apply allocAt H); intro h b H) | ((with_reducible refine ⟨?_, ?_⟩); first | ((with_reducible apply ldAt H 1); exact rfl; exact rfl; exact rfl) | ((with_reducible apply ldAt0 H 1); exact rfl; exact rfl; exact rfl)))
    exact hg _ s' H.tail
  · refine brD (fun hc => ⟨(decide_eq_true (.inl hc)).symm, rfl⟩) fun hc => ?_
    repeat (first | with_reducible refine nn ?_ | with_reducible refine let_ ?_ | with_reducible refine brSome ?_ | with_reducible refine brF ?_ | with_reducible refine brT ?_ | ((with_reducible apply ldAt H 0); exact rfl; exact rfl) | ((with_reducible apply ldAt0 H 0); exact rfl; exact rfl) | ((with_reducible apply stAt H 0); exact rfl; exact rfl; intro h H) | ((with_reducible apply stAt0 H 0); exact rfl; exact rfl; intro h H) | ((with_reducible apply allocAt H); intro h b H) | ((with_reducible refine ⟨?_, ?_⟩); first | ((with_reducible apply ldAt H 0); exact rfl; exact rfl; exact rfl) | ((with_reducible apply ldAt0 H 0); exact rfl; exact rfl; exact rfl)))
    refine ⟨?_, rfl⟩
    rw [Bool.eq_iff_iff, decide_eq_true_iff, decide_eq_true_iff]
    omega
theorem ref30_Fail_ok {o : Nat → Int} {i : Int} {R : Int → Heap → Prop} (H : RefAt h0 h d f N F) (ho : LOk N f) (I : LInv f o) (hb : (i < 0 ∨ (f.l.length : Int) ≤ i) → R 6 h)
    (hg : ∀ (k : Nat), i = k → (hk : k < f.l.length) → ∀ h', RefAt h0 h' d (failM f k f.l[k]) N F → R 0 h') : C_ref30_Field_Fail (some ⟨d, 0, none⟩) i h R := by
  obtain ⟨X, H, Q, hX⟩ := H
  have hN := ho.N
  have h7 := ho.n7
  have hn := H.n 1 rfl
  have hlc := Q.lc
  have hlr := Q.lr
  have hlt := Q.lt
  have hlw := Q.lw
  have hlp := Q.lp
  have hlen := ho.len
  refine A_ref30_Field_Fail ?_
  unfold S_ref30_Field_Fail
  refine join1 (s1 := .one .bool) (fun (b : Bool) g => b = decide (i < 0 ∨ (f.l.length : Int) ≤ i) ∧ g = h) (fun _ (b : Bool) g hJ => ?_) ?_
  · obtain ⟨rfl, rfl⟩ := hJ
    refine brD (fun hc => hb hc) fun hc => ?_
    obtain ⟨k, rfl⟩ : ∃ k : Nat, i = k := ⟨i.toNat, by omega⟩
    have hk : k < f.l.length := by omega
    have hg := hg k rfl hk
    have hx := ho.nd _ (List.getElem_mem hk)
    have hrk : cv X.R k = f.l[k].round := (Q.r k hk).trans (by rw [nd_get hk])
    have hck : cv X.C k = f.l[k].clock := (Q.c k hk).trans (by rw [nd_get hk])
    repeat (first | with_reducible refine nn ?_ | with_reducible refine let_ ?_ | with_reducible refine brSome ?_ | with_reducible refine brF ?_ | with_reducible refine brT ?_ | ((with_reducible apply ldAt H 0); exact rfl; exact rfl) | ((with_reducible apply ldAt0 H 0); exact rfl; exact rfl) | ((with_reducible apply stAt H 0); exact rfl; exact rfl; intro h H) | ((with_reducible apply stAt0 H 0); exact rfl; exact rfl; intro h H) | ((with_reducible apply allocAt H); intro h b H) | ((with_reducible refine ⟨?_, ?_⟩); first | ((with_reducible apply ldAt H 0); exact rfl; exact rfl; exact rfl) | ((with_reducible apply ldAt0 H 0); exact rfl; exact rfl; exact rfl)))
    refine ixAt H 2 rfl k rfl (by omega) fun e he => ?_
    refine ldI H 2 rfl he (by omega) rfl ?_
    repeat (first | with_reducible refine nn ?_ | with_reducible refine let_ ?_ | with_reducible refine brSome ?_ | with_reducible refine brF ?_ | with_reducible refine brT ?_ | ((with_reducible apply ldAt H 0); exact rfl; exact rfl) | ((with_reducible apply ldAt0 H 0); exact rfl; exact rfl) | ((with_reducible apply stAt H 0); exact rfl; exact rfl; intro h H) | ((with_reducible apply stAt0 H 0); exact rfl; exact rfl; intro h H) | ((with_reducible apply allocAt H); intro h b H) | ((with_reducible refine ⟨?_, ?_⟩); first | ((with_reducible apply ldAt H 0); exact rfl; exact rfl; exact rfl) | ((with_reducible apply ldAt0 H 0); exact rfl; exact rfl; exact rfl)))
    refine ixAt H 1 rfl k rfl (by omega) fun e he => ?_
    refine ldI H 1 rfl he (by omega) rfl ?_
    repeat (first | with_reducible refine nn ?_ | with_reducible refine let_ ?_ | with_reducible refine brSome ?_ | with_reducible refine brF ?_ | with_reducible refine brT ?_ | ((with_reducible apply ldAt H 0); exact rfl; exact rfl) | ((with_reducible apply ldAt0 H 0); exact rfl; exact rfl) | ((with_reducible apply stAt H 0); exact rfl; exact rfl; intro h H) | ((with_reducible apply stAt0 H 0); exact rfl; exact rfl; intro h H) | ((with_reducible apply allocAt H); intro h b H) | ((with_reducible refine ⟨?_, ?_⟩); first | ((with_reducible apply ldAt H 0); exact rfl; exact rfl; exact rfl) | ((with_reducible apply ldAt0 H 0); exact rfl; exact rfl; exact rfl)))
    refine ixAt H 4 rfl k rfl (by omega) fun e he => ?_
    refine stI H 4 rfl he (by omega) fun h2 H => ?_
    refine ixAt H 2 rfl k rfl (by omega) fun e he => ?_
    rw [w64 (n := cv X.R k + 1) (by omega) (by omega), w64 (n := cv X.C k + f.len) (by omega) (by omega)]
    refine stI H 2 rfl he (by omega) fun h3 H => ?_
    refine ixAt H 5 rfl k rfl (by omega) fun e he => ?_
    refine stI H 5 rfl he (by omega) fun h4 H => ?_
    refine ixAt H 6 rfl k rfl (by omega) fun e he => ?_
    refine stI H 6 rfl he (by omega) fun h5 H => ?_
    exact hg _ ⟨{ X with T := X.T.set k 0, R := X.R.set k (cv X.R k + 1), W := X.W.set k (-1), P := X.P.set k (cv X.C k + f.len) }, H, Q.fail I hk, hX⟩
  · refine brD (fun hc => ⟨(decide_eq_true (.inl hc)).symm, rfl⟩) fun hc => ?_
    repeat (first | with_reducible refine nn ?_ | with_reducible refine let_ ?_ | with_reducible refine brSome ?_ | with_reducible refine brF ?_ | with_reducible refine brT ?_ | ((with_reducible apply ldAt H 0); exact rfl; exact rfl) | ((with_reducible apply ldAt0 H 0); exact rfl; exact rfl) | ((with_reducible apply stAt H 0); exact rfl; exact rfl; intro h H) | ((with_reducible apply stAt0 H 0); exact rfl; exact rfl; intro h H) | ((with_reducible apply allocAt H); intro h b H) | ((with_reducible refine ⟨?_, ?_⟩); first | ((with_reducible apply ldAt H 0); exact rfl; exact rfl; exact rfl) | ((with_reducible apply ldAt0 H 0); exact rfl; exact rfl; exact rfl)))
    refine ⟨?_, rfl⟩
    rw [Bool.eq_iff_iff, decide_eq_true_iff, decide_eq_true_iff]
    omega
end
end Go.Proofs.Ytegbnmaglkpkjaa
