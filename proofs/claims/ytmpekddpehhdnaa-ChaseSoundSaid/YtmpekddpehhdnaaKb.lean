/-
  Layer 14 (chase): the contracts of the program's inner calls.
-/
import Derived.Test.YtmpekddpehhdnaaKa
import Derived.Test.YtmpekddpehhdnaaRn
import Derived.Test.YtmpekddpehhdnaaSK
namespace Go.Proofs.Ytmpekddpehhdnaa
open Go

def eND : Enc (CN × Sl) 5 := ⟨fun a => [.int .i64 a.1.id, .int .i64 a.1.stamp, .int .i64 a.1.site, .int .i64 a.1.round, .slice a.2.a a.2.n a.2.c], fun _ => rfl, by decide, fun x u hu => by
  simp only [List.mem_cons, List.not_mem_nil, or_false] at hu
  rcases hu with rfl | rfl | rfl | rfl | rfl <;> rfl⟩
def eCP : Enc CP 4 := ⟨fun a => [.int .i64 a.start, .int .i64 a.stamp, .int .i64 a.round, .int .i64 a.at_], fun _ => rfl, by decide, fun x u hu => by
  simp only [List.mem_cons, List.not_mem_nil, or_false] at hu
  rcases hu with rfl | rfl | rfl | rfl <;> rfl⟩
def eMp : Enc Nat 1 := ⟨fun a => [.map (some a)], fun _ => rfl, by decide, fun x u hu => by
  simp only [List.mem_cons, List.not_mem_nil, or_false] at hu
  rcases hu with rfl; rfl⟩
theorem TND : ElemT Try.prog 115 122 5 56 := .of (by kernel_rfl)
theorem TCP : ElemT Try.prog 34 37 4 32 := .of (by kernel_rfl)
theorem ZCP : ZeroT Try.prog 37 [.int .i64 0, .int .i64 0, .int .i64 0, .int .i64 0] := ⟨by kernel_rfl⟩
theorem TMp : ElemT Try.prog 114 118 1 8 := .of (by kernel_rfl)
theorem ONum : OvT Try.prog 106 53 := ⟨Try.f106, 4, Try.func106, by kernel_rfl, by kernel_rfl, by kernel_rfl, by kernel_rfl⟩
def fiveL (d : Nat) (ty : TypeId) (sn nq fq vq : Sl) (ms : List Nat) (z : List (CN × Sl)) (fl : List CP) (vs : List Int) : List Res :=
  [.blk d ty [.slice sn.a sn.n sn.c, .slice nq.a nq.n nq.c, .slice fq.a fq.n fq.c, .slice vq.a vq.n vq.c], .own sn 1 (eMp.fl ms), .own nq 5 (eND.fl z), .own fq 4 (eCP.fl fl), .own vq 1 (eNum.fl vs)]
section
variable {h0 h : Heap} {G L : List Res} {d : Nat} {ty : TypeId} {s sn nq fq vq : Sl} {ms : List Nat} {z : List (CN × Sl)} {fl : List CP} {vs l : List Int}
theorem less_ok {x y : Int} {R : Bool → Heap → Prop} (hR : R (decide (x < y)) h) : C_cmp_Less_int x y h R := by
  refine A_cmp_Less_int ?_
  unfold S_cmp_Less_int
  refine A_cmp_isNaN_int ?_
  exact brN (by simp) hR
theorem Search_int_ok {x : Int} {R : Int → Bool → Heap → Prop} (H : At h0 h L) (n : Nat) (hn : L[n]? = some (.own s 1 (eNum.fl l))) (hs : SrtI l) (hlen : l.length ≤ 1000000)
    (hR : R (loI l x : Int) (decide (x ∈ l)) h) : C_slices_BinarySearch_int_int s x h R := by
  refine A_slices_BinarySearch_int_int ?_
  unfold S_slices_BinarySearch_int_int
  have hsn := H.n n hn
  refine let_ ?_
  refine loop2 (s1 := .one (.int .i64)) (s2 := .one (.int .i64)) (fun (i j : Int) h1 => ∃ a b : Nat, i = a ∧ j = b ∧ a ≤ b ∧ b ≤ l.length ∧ h1 = h ∧ (∀ k, (hk : k < l.length) → k < a → l[k] < x) ∧ ∀ k, (hk : k < l.length) → b ≤ k → x ≤ l[k]) (fun (i j : Int) _ => (j - i).toNat)
    ⟨0, l.length, rfl, by rw [hsn], Nat.zero_le _, Nat.le_refl _, rfl, fun k _ hk => absurd hk (Nat.not_lt_zero _), fun k hk hk2 => by omega⟩ fun _ (i j : Int) h1 hI => ?_
  obtain ⟨a, b, rfl, rfl, hab, hbl, rfl, hlo, hhi⟩ := hI
  refine brD (fun hc => nneg (by decide) ?_) fun hc => ?_
  · rw [mid_eq (by omega)]
    refine let_ ?_
    have hm : (a + b) / 2 < l.length := by omega
    refine ixAt H n hn ((a + b) / 2) rfl hm fun e he => ?_
    refine ldEl0 H n hn he hm l[(a + b) / 2] rfl ?_
    refine less_ok ?_
    refine brD (fun hq0 => let_ ?_) fun hq0 => ?_
    · rw [w64 (by omega) (by omega)]
      refine ⟨⟨(a + b) / 2 + 1, b, by omega, rfl, by omega, hbl, rfl, fun k hk hka => ?_, hhi⟩, by omega⟩
      by_cases e : k = (a + b) / 2
      · subst e; exact hq0
      · have := srtI_lt hs (show k < (a + b) / 2 by omega) hm
        omega
    · refine ⟨⟨a, (a + b) / 2, rfl, rfl, by omega, by omega, rfl, hlo, fun k hk hka => ?_⟩, by omega⟩
      by_cases e : k = (a + b) / 2
      · subst e; omega
      · have := srtI_lt hs (show (a + b) / 2 < k by omega) hk
        omega
  · have hab2 : a = b := by omega
    subst hab2
    have hcut : CutI l x a := ⟨hbl, hlo, hhi⟩
    have hal := hcut.uniq (loI_cut hs x)
    have hm2 := mem_loI hs (x := x)
    refine brD (fun hlt => ?_) fun hge => ?_
    · have hm : a < l.length := by omega
      refine ixAt H n hn a rfl hm fun e he => ?_
      refine ldEl0 H n hn he hm l[a] rfl ?_
      subst hal
      refine br beq_iff_eq (fun hx => ?_) fun hx => ?_
      · rw [decide_eq_true (hm2.2 ⟨hm, hx⟩)] at hR
        exact hR
      · rw [decide_eq_false fun h => hx (hm2.1 h).2] at hR
        refine ixAt H n hn _ rfl hm fun e he => ?_
        refine ldEl0 H n hn he hm _ rfl ?_
        refine A_slices_isNaN_int ?_
        exact brN (by simp) hR
    · rw [decide_eq_false fun h => by obtain ⟨h, _⟩ := hm2.1 h; omega] at hR
      rw [hal]
      exact hR
theorem Insert_int_ok {x : Int} {R : Sl → Heap → Prop} (H : At h0 h L) (n : Nat) (hn : L[n]? = some (.own s 1 (eNum.fl l))) (hs : SrtI l) (hlen : l.length ≤ 1000000) {t : TypeId}
    (hR : ∀ s' h', At h0 h' (L.set n (.own s' 1 (eNum.fl (putI l x)))) → R s' h') {K : Addr → Heap → Prop} (hK : ∀ b h', C_slices_Insert_int_int s (loI l x : Int) ⟨some b, 1, 1⟩ h' R → K b h') : Alloc h (.cells #[.int .i64 x] t) K := by
  have hbl := (H.own n hn).below
  refine allocRaw (cs := [.int .i64 x]) fun h2 hb2 e2 => hK _ _ ?_
  refine A_slices_Insert_int_int ?_
  exact insert_ok (E := eNum) (rot := fun s m h K => C_slices_rotateRight_int s m h K) TNum ZNum rfl Try.underlying3 ONum (H.ext' e2) n hn (loI l x) rfl (loI_le hs x) x hb2 (fun g hg => by have := hbl g hg; omega) (by omega) (by omega) hR
theorem Delete_cp_ok {s : Sl} {i j : Int} {L : List Res} {l : List CP} {R : Sl → Heap → Prop} (H : At h0 h L) (n : Nat) (hn : L[n]? = some (.own s 4 (eCP.fl l))) (k : Nat) (hi : i = (k : Int)) (hj : j = ((k + 1 : Nat) : Int)) (hk : k < l.length) (hlen : l.length ≤ 10000000)
    (hR : ∀ s' h', At h0 h' (L.set n (.own s' 4 (eCP.fl (l.take k ++ l.drop (k + 1))))) → R s' h') : C_slices_Delete_api_Probe_api_Probe s i j h R := by
  refine A_slices_Delete_api_Probe_api_Probe ?_
  unfold S_slices_Delete_api_Probe_api_Probe
  have ho := H.own n hn
  have hsn := H.n n hn
  have hsc := ho.2.1
  refine cutR (E := eCP) TCP ho.rd k (k + 1) s.n (loi hi) (hii hj) (.inr ⟨hii rfl, by simp⟩) (by omega) (by omega) (by omega) hsc fun s1 _ _ _ _ => ?_
  refine brN (by simp; omega) (let_ ?_)
  refine cutRO (E := eCP) TCP ho 0 k s.c lo0 (hii hi) (.inl ⟨rfl, rfl⟩) (by omega) (by omega) (by omega) (Nat.le_refl _) fun s2 o2 n2 c2 b2 => ?_
  refine cutR (E := eCP) TCP ho.rd (k + 1) s.n s.c (loi hj) (hi0 _) (.inl ⟨rfl, rfl⟩) (by omega) (by omega) hsc (Nat.le_refl _) fun s3 r3 n3 c3 b3 => ?_
  rw [List.drop_zero, Nat.sub_zero] at o2
  rw [List.take_of_length_le (by rw [List.length_drop]; omega)] at r3
  refine app_room TCP o2 r3 (eCP.fl_ones _) (by omega) (by omega) (by omega) fun h2 o4 u4 z4 => ?_
  rw [← Enc.fl_app] at o4
  refine cutClr TCP ZCP rfl o4 s.n (loi rfl) (hii rfl) (by show s2.n + s3.n ≤ _; omega) (by show s.n ≤ s2.c; omega) fun h3 o5 u5 z5 => ?_
  refine hR _ h3 (H.turn n hn (r' := .own ⟨s2.a, s2.n + s3.n, s2.c⟩ 4 (eCP.fl (l.take k ++ l.drop (k + 1)))) (u4.trans u5 (fun g _ hg => by rw [Res.fp, ← b2]; exact hg) (fun g _ hg => by rw [Res.fp, ← b2]; exact hg)) o5 fun g hg => .inl (by rw [Res.fp, ← b2]; exact hg))
theorem Clone_cp_ok {s : Sl} {n : Nat} {L : List Res} {l : List CP} {R : Sl → Heap → Prop} (H : At h0 h L) (hn : L[n]? = some (.own s 4 (eCP.fl l))) (hlen : l.length ≤ 10000000) (hR : ∀ s' h', At h0 h' (.own s' 4 (eCP.fl l) :: L) → R s' h') : C_slices_Clone_api_Probe_api_Probe s h R := by
  refine A_slices_Clone_api_Probe_api_Probe ?_
  unfold S_slices_Clone_api_Probe_api_Probe
  have ho := H.own n hn
  have hsn := H.n n hn
  cases ha : s.a with
  | none =>
    have h0 : l = [] := by
      cases l with
      | nil => rfl
      | cons x l =>
        obtain ⟨g, o, hx, _⟩ := ho.rd.2 (by rw [eCP.fl_len]; simp)
        rw [ha] at hx; cases hx
    subst h0
    refine brT (hR _ _ (H.nil 4))
  | some a =>
    refine brF ?_
    refine allocAt (cs := []) H fun h4 c H => ?_
    have H := H.as_ 0 rfl (.own ⟨some ⟨c, 0, none⟩, 0, 0⟩ 4 (eCP.fl [])) (Own.full (H.get 0 rfl : Blk h4 c _ []) (sz := 4) (n := 0) rfl (by decide)) (fun g hg => by have hg : some c = some g := hg; injection hg with hg; exact hg.symm)
    have hrd : RdS h4 4 s (eCP.fl l) := H.rdo (n + 1) hn
    refine appAt (xs := []) (ys := l) TCP H 0 rfl hrd (by simp; omega) (by simp; omega) fun s' h' H => ?_
    exact hR _ _ H
theorem Clone_int_ok {s : Sl} {n : Nat} {L : List Res} {l : List Int} {R : Sl → Heap → Prop} (H : At h0 h L) (hn : L[n]? = some (.own s 1 (eNum.fl l))) (hlen : l.length ≤ 10000000) (hR : ∀ s' h', At h0 h' (.own s' 1 (eNum.fl l) :: L) → R s' h') : C_slices_Clone_int_int s h R := by
  refine A_slices_Clone_int_int ?_
  unfold S_slices_Clone_int_int
  have ho := H.own n hn
  have hsn := H.n n hn
  cases ha : s.a with
  | none =>
    have h0 : l = [] := by
      cases l with
      | nil => rfl
      | cons x l =>
        obtain ⟨g, o, hx, _⟩ := ho.rd.2 (by rw [eNum.fl_len]; simp)
        rw [ha] at hx; cases hx
    subst h0
    refine brT (hR _ _ (H.nil 1))
  | some a =>
    refine brF ?_
    refine allocAt (cs := []) H fun h4 c H => ?_
    have H := H.as_ 0 rfl (.own ⟨some ⟨c, 0, none⟩, 0, 0⟩ 1 (eNum.fl [])) (Own.full (H.get 0 rfl : Blk h4 c _ []) (sz := 1) (n := 0) rfl (by decide)) (fun g hg => by have hg : some c = some g := hg; injection hg with hg; exact hg.symm)
    have hrd : RdS h4 1 s (eNum.fl l) := H.rdo (n + 1) hn
    refine appAt (xs := []) (ys := l) TNum H 0 rfl hrd (by simp; omega) (by simp; omega) fun s' h' H => ?_
    exact hR _ _ H
theorem chase_find_ok {x : Int} {R : Option Addr → Heap → Prop} (H : At h0 h (fiveL d ty sn nq fq vq ms z fl vs ++ G)) (hlen : z.length ≤ 64) (hb : ¬ hasN (z.map Prod.fst) x → R none h)
    (hg : ∀ k, (hk : k < z.length) → z[k].1.id = x → ∀ e, ElAt nq 5 k e → R (some e) h) : C_chase_Field_find (some ⟨d, 0, none⟩) x h R := by
  refine A_chase_Field_find ?_
  unfold S_chase_Field_find
  have hsn := H.n 2 rfl
  repeat (first | with_reducible refine nn ?_ | with_reducible refine let_ ?_ | with_reducible refine brSome ?_ | with_reducible refine brF ?_ | with_reducible refine brT ?_ | ((with_reducible apply ldAt H 0); exact rfl; exact rfl) | ((with_reducible apply ldAt0 H 0); exact rfl; exact rfl) | ((with_reducible apply stAt H 0); exact rfl; exact rfl; intro h H) | ((with_reducible apply stAt0 H 0); exact rfl; exact rfl; intro h H) | ((with_reducible apply allocAt H); intro h b H) | ((with_reducible refine ⟨?_, ?_⟩); first | ((with_reducible apply ldAt H 0); exact rfl; exact rfl; exact rfl) | ((with_reducible apply ldAt0 H 0); exact rfl; exact rfl; exact rfl)))
  refine loop1 (s1 := .one (.int .i64)) (fun (y : Int) h1 => ∃ j : Nat, y = j ∧ j ≤ z.length ∧ h1 = h ∧ ∀ i, (hi : i < z.length) → i < j → z[i].1.id ≠ x) (fun (y : Int) _ => (z.length - y).toNat)
    ⟨0, rfl, Nat.zero_le _, rfl, fun i _ hi => absurd hi (Nat.not_lt_zero _)⟩ fun _ (y : Int) h1 hI => ?_
  obtain ⟨j, rfl, hj, rfl, hno⟩ := hI
  refine brD (fun hc => ?_) fun hc => ?_
  · have hj2 : j < z.length := by omega
    repeat (first | with_reducible refine nn ?_ | with_reducible refine let_ ?_ | with_reducible refine brSome ?_ | with_reducible refine brF ?_ | with_reducible refine brT ?_ | ((with_reducible apply ldAt H 0); exact rfl; exact rfl) | ((with_reducible apply ldAt0 H 0); exact rfl; exact rfl) | ((with_reducible apply stAt H 0); exact rfl; exact rfl; intro h H) | ((with_reducible apply stAt0 H 0); exact rfl; exact rfl; intro h H) | ((with_reducible apply allocAt H); intro h b H) | ((with_reducible refine ⟨?_, ?_⟩); first | ((with_reducible apply ldAt H 0); exact rfl; exact rfl; exact rfl) | ((with_reducible apply ldAt0 H 0); exact rfl; exact rfl; exact rfl)))
    refine ixAt H 2 rfl j rfl hj2 fun e he => ?_
    refine ldEl0 H 2 rfl he hj2 z[j].1.id rfl ?_
    refine br beq_iff_eq (fun hx => ?_) fun hx => ?_
    · repeat (first | with_reducible refine nn ?_ | with_reducible refine let_ ?_ | with_reducible refine brSome ?_ | with_reducible refine brF ?_ | with_reducible refine brT ?_ | ((with_reducible apply ldAt H 0); exact rfl; exact rfl) | ((with_reducible apply ldAt0 H 0); exact rfl; exact rfl) | ((with_reducible apply stAt H 0); exact rfl; exact rfl; intro h H) | ((with_reducible apply stAt0 H 0); exact rfl; exact rfl; intro h H) | ((with_reducible apply allocAt H); intro h b H) | ((with_reducible refine ⟨?_, ?_⟩); first | ((with_reducible apply ldAt H 0); exact rfl; exact rfl; exact rfl) | ((with_reducible apply ldAt0 H 0); exact rfl; exact rfl; exact rfl)))
      refine ixAt H 2 rfl j rfl hj2 fun e he => ?_
      exact hg j hj2 hx e he
    · rw [w64 (by omega) (by omega)]
      refine ⟨⟨j + 1, by omega, by omega, rfl, fun i hi hij => ?_⟩, by omega⟩
      by_cases e : i < j
      · exact hno i hi e
      · obtain rfl : i = j := by omega
        exact hx
  · refine hb fun ⟨n, hn, e⟩ => ?_
    obtain ⟨i, hi, rfl⟩ := List.getElem_of_mem hn
    rw [List.length_map] at hi
    rw [List.getElem_map] at e
    exact hno i hi (by omega) e
theorem nd_z (hu : UniqN (z.map Prod.fst)) {k : Nat} (hk : k < z.length) : nd (z.map Prod.fst) z[k].1.id = z[k].1 := nd_eq hu (List.mem_map_of_mem (List.getElem_mem hk))
theorem hasN_z {k : Nat} (hk : k < z.length) : hasN (z.map Prod.fst) z[k].1.id := ⟨_, List.mem_map_of_mem (List.getElem_mem hk), rfl⟩
set_option maxHeartbeats 1600000 in
theorem chase_goes_ok {k m : Nat} {e : Addr} {p : CP} {R : Heap → Prop} (H : At h0 h (fiveL d ty sn nq fq vq ms z fl vs ++ G)) (hlen : z.length ≤ 64) (hu : UniqN (z.map Prod.fst)) (hk : k < z.length) (he : ElAt nq 5 k e) (hm : G[m]? = some (.own z[k].2 1 (eNum.fl z[k].1.to)))
    (hto : ∀ t ∈ z[k].1.to, hasN (z.map Prod.fst) t) (htl : z[k].1.to.length ≤ 64) (hfl : fl.length ≤ 1000000)
    (hR : ∀ h' fq', At h0 h' (fiveL d ty sn nq fq' vq ms z (fl ++ sentL (z.map Prod.fst) z[k].1.to p) vs ++ G) → R h') : C_chase_Field_goes (some ⟨d, 0, none⟩) (some e) (p.start, p.stamp, p.round, p.at_, ()) h R := by
  refine A_chase_Field_goes ?_
  unfold S_chase_Field_goes
  refine allocAt (cs := [.int .i64 p.start, .int .i64 p.stamp, .int .i64 p.round, .int .i64 p.at_]) H fun h1 b1 H => ?_
  refine nn ?_
  refine ldEl (j := 4) H 3 rfl he hk z[k].2 rfl ?_
  have htn := H.n (m + 6) hm
  refine loop1 (s1 := .one (.int .i64)) (fun (y : Int) h2 => ∃ (j : Nat) (fq' : Sl) (a_ : Int), y = j ∧ j ≤ z[k].1.to.length ∧ At h0 h2 (.blk b1 37 [.int .i64 p.start, .int .i64 p.stamp, .int .i64 p.round, .int .i64 a_] :: (fiveL d ty sn nq fq' vq ms z (fl ++ sentL (z.map Prod.fst) (z[k].1.to.take j) p) vs ++ G))) (fun (y : Int) _ => (z[k].1.to.length - y).toNat)
    ⟨0, fq, p.at_, rfl, Nat.zero_le _, by rw [List.take_zero, show sentL (z.map Prod.fst) [] p = [] from rfl, List.append_nil]; exact H⟩ fun _ (y : Int) h2 hI => ?_
  obtain ⟨j, fq', a_, rfl, hj, H⟩ := hI
  refine brD (fun hc => ?_) fun hc => ?_
  · have hj2 : j < z[k].1.to.length := by omega
    refine ixAt H (m + 6) hm j rfl hj2 fun e2 he2 => ?_
    refine ldEl0 H (m + 6) hm he2 hj2 z[k].1.to[j] rfl ?_
    have hht := hto _ (List.getElem_mem hj2)
    have hsl : (sentL (z.map Prod.fst) (z[k].1.to.take j) p).length ≤ 64 := Nat.le_trans (sent_len ..) (by rw [List.length_take]; omega)
    have htk : sentL (z.map Prod.fst) (z[k].1.to.take (j + 1)) p = sentL (z.map Prod.fst) (z[k].1.to.take j) p ++ (if okTo (z.map Prod.fst) p z[k].1.to[j] then [{ p with at_ := z[k].1.to[j] }] else []) := by
      unfold sentL
      rw [List.take_succ_eq_append_getElem hj2, List.filter_append, List.map_append]
      congr 1
      by_cases ho : okTo (z.map Prod.fst) p z[k].1.to[j]
      · rw [if_pos ho, List.filter_cons_of_pos (by simpa using ho)]; rfl
      · rw [if_neg ho, List.filter_cons_of_neg (by simpa using ho)]; rfl
    generalize hgt : z[k].1.to[j] = t at *
    refine chase_find_ok (G := _ :: G) (H.mv 1 5) hlen (fun hno => absurd hht hno) fun q hq hqt e3 he3 => ?_
    have hnd : nd (z.map Prod.fst) t = z[q].1 := by rw [← hqt]; exact nd_z hu hq
    refine join1 (s1 := .one .bool) (fun (b : Bool) h3 => (b = true ↔ okTo (z.map Prod.fst) p t) ∧ h3 = h2) (fun _ (b : Bool) h3 hJ => ?_) ?_
    · obtain ⟨hb, rfl⟩ := hJ
      refine brB (fun hbt => ?_) fun hbf => ?_
      · repeat (first | with_reducible refine nn ?_ | with_reducible refine let_ ?_ | with_reducible refine brSome ?_ | with_reducible refine brF ?_ | with_reducible refine brT ?_ | ((with_reducible apply ldAt H 0); exact rfl; exact rfl) | ((with_reducible apply ldAt0 H 0); exact rfl; exact rfl) | ((with_reducible apply ldAt H 1); exact rfl; exact rfl) | ((with_reducible apply ldAt0 H 1); exact rfl; exact rfl) | ((with_reducible apply ldAt H 2); exact rfl; exact rfl) | ((with_reducible apply ldAt0 H 2); exact rfl; exact rfl) | ((with_reducible apply stAt H 0); exact rfl; exact rfl; intro h H) | ((with_reducible apply stAt0 H 0); exact rfl; exact rfl; intro h H) | ((with_reducible apply stAt H 1); exact rfl; exact rfl; intro h H) | ((with_reducible apply stAt0 H 1); exact rfl; exact rfl; intro h H) | ((with_reducible apply stAt H 2); exact rfl; exact rfl; intro h H) | ((with_reducible apply stAt0 H 2); exact rfl; exact rfl; intro h H) | ((with_reducible apply allocAt H); intro h b H) | ((with_reducible refine ⟨?_, ?_⟩); first | ((with_reducible apply ldAt H 0); exact rfl; exact rfl; exact rfl) | ((with_reducible apply ldAt0 H 0); exact rfl; exact rfl; exact rfl) | ((with_reducible apply ldAt H 1); exact rfl; exact rfl; exact rfl) | ((with_reducible apply ldAt0 H 1); exact rfl; exact rfl; exact rfl) | ((with_reducible apply ldAt H 2); exact rfl; exact rfl; exact rfl) | ((with_reducible apply ldAt0 H 2); exact rfl; exact rfl; exact rfl)))
        refine app1B (E := eCP) TCP H 5 rfl 0 rfl { p with at_ := t } rfl (by simp; omega) (by simp; omega) fun s3 h H => ?_
        repeat (first | with_reducible refine nn ?_ | with_reducible refine let_ ?_ | with_reducible refine brSome ?_ | with_reducible refine brF ?_ | with_reducible refine brT ?_ | ((with_reducible apply ldAt H 0); exact rfl; exact rfl) | ((with_reducible apply ldAt0 H 0); exact rfl; exact rfl) | ((with_reducible apply ldAt H 1); exact rfl; exact rfl) | ((with_reducible apply ldAt0 H 1); exact rfl; exact rfl) | ((with_reducible apply ldAt H 2); exact rfl; exact rfl) | ((with_reducible apply ldAt0 H 2); exact rfl; exact rfl) | ((with_reducible apply stAt H 0); exact rfl; exact rfl; intro h H) | ((with_reducible apply stAt0 H 0); exact rfl; exact rfl; intro h H) | ((with_reducible apply stAt H 1); exact rfl; exact rfl; intro h H) | ((with_reducible apply stAt0 H 1); exact rfl; exact rfl; intro h H) | ((with_reducible apply stAt H 2); exact rfl; exact rfl; intro h H) | ((with_reducible apply stAt0 H 2); exact rfl; exact rfl; intro h H) | ((with_reducible apply allocAt H); intro h b H) | ((with_reducible refine ⟨?_, ?_⟩); first | ((with_reducible apply ldAt H 0); exact rfl; exact rfl; exact rfl) | ((with_reducible apply ldAt0 H 0); exact rfl; exact rfl; exact rfl) | ((with_reducible apply ldAt H 1); exact rfl; exact rfl; exact rfl) | ((with_reducible apply ldAt0 H 1); exact rfl; exact rfl; exact rfl) | ((with_reducible apply ldAt H 2); exact rfl; exact rfl; exact rfl) | ((with_reducible apply ldAt0 H 2); exact rfl; exact rfl; exact rfl)))
        rw [w64 (by omega) (by omega)]
        refine ⟨⟨j + 1, s3, t, by omega, by omega, ?_⟩, by omega⟩
        rw [htk, if_pos (hb.1 hbt), ← List.append_assoc]
        exact H.tail
      · rw [w64 (by omega) (by omega)]
        refine ⟨⟨j + 1, fq', a_, by omega, by omega, ?_⟩, by omega⟩
        rw [htk, if_neg (fun x => by rw [hb.2 x] at hbf; exact nomatch hbf), List.append_nil]
        exact H
    · unfold okTo
      rw [hnd]
      refine ldAt0 H 0 rfl p.start rfl ?_
      refine br beq_iff_eq (fun h1 => ⟨⟨fun _ => .inl h1, fun _ => rfl⟩, rfl⟩) fun h1 => ?_
      refine nn ?_
      refine ldEl (j := 1) H 3 rfl he3 hq z[q].1.stamp rfl (ldAt (j := 1) H 0 rfl p.stamp rfl ?_)
      refine brD (fun h4 => ⟨⟨fun _ => .inr (.inl h4), fun _ => rfl⟩, rfl⟩) fun h4 => ?_
      refine nn ?_
      refine ldEl (j := 1) H 3 rfl he3 hq z[q].1.stamp rfl (ldAt (j := 1) H 0 rfl p.stamp rfl ?_)
      refine br beq_iff_eq (fun h5 => ?_) fun h5 => ⟨⟨fun x => (by cases x), fun x => by omega⟩, rfl⟩
      refine ldAt0 H 0 rfl p.start rfl ⟨?_, rfl⟩
      rw [decide_eq_true_iff]
      exact ⟨fun x => .inr (.inr ⟨h5, x⟩), fun x => by omega⟩
  · have hjl : j = z[k].1.to.length := by omega
    subst hjl
    rw [List.take_length] at H
    exact hR _ _ H.tail
theorem chase_goes_ok2 {k m : Nat} {e : Addr} {p : CP} {y : CN × Sl} {R : Heap → Prop} (H : At h0 h (fiveL d ty sn nq fq vq ms z fl vs ++ G)) (hlen : z.length ≤ 64) (hu : UniqN (z.map Prod.fst)) (hk : k < z.length) (hy : z[k] = y) (he : ElAt nq 5 k e) (hm : G[m]? = some (.own y.2 1 (eNum.fl y.1.to)))
    (hto : ∀ t ∈ y.1.to, hasN (z.map Prod.fst) t) (htl : y.1.to.length ≤ 64) (hfl : fl.length ≤ 1000000)
    (hR : ∀ h' fq', At h0 h' (fiveL d ty sn nq fq' vq ms z (fl ++ sentL (z.map Prod.fst) y.1.to p) vs ++ G) → R h') : C_chase_Field_goes (some ⟨d, 0, none⟩) (some e) (p.start, p.stamp, p.round, p.at_, ()) h R := by
  subst hy
  exact chase_goes_ok H hlen hu hk he hm hto htl hfl hR
theorem chase_tell_ok {x : Int} {R : Heap → Prop} (H : At h0 h (fiveL d ty sn nq fq vq ms z fl vs ++ G)) (hs : SrtI vs) (hlen : vs.length ≤ 100000)
    (hR : ∀ h' vq', At h0 h' (fiveL d ty sn nq fq vq' ms z fl (insI vs x) ++ G) → R h') : C_chase_Field_tell (some ⟨d, 0, none⟩) x h R := by
  refine A_chase_Field_tell ?_
  unfold S_chase_Field_tell
  repeat (first | with_reducible refine nn ?_ | with_reducible refine let_ ?_ | with_reducible refine brSome ?_ | with_reducible refine brF ?_ | with_reducible refine brT ?_ | ((with_reducible apply ldAt H 0); exact rfl; exact rfl) | ((with_reducible apply ldAt0 H 0); exact rfl; exact rfl) | ((with_reducible apply stAt H 0); exact rfl; exact rfl; intro h H) | ((with_reducible apply stAt0 H 0); exact rfl; exact rfl; intro h H) | ((with_reducible apply allocAt H); intro h b H) | ((with_reducible refine ⟨?_, ?_⟩); first | ((with_reducible apply ldAt H 0); exact rfl; exact rfl; exact rfl) | ((with_reducible apply ldAt0 H 0); exact rfl; exact rfl; exact rfl)))
  refine Search_int_ok H 4 rfl hs (by omega) ?_
  unfold insI at hR
  by_cases hm : x ∈ vs
  · rw [if_pos hm] at hR
    rw [decide_eq_true hm]
    exact brF (hR _ _ H)
  · rw [if_neg hm] at hR
    rw [decide_eq_false hm]
    refine brT ?_
    repeat (first | with_reducible refine nn ?_ | with_reducible refine let_ ?_ | with_reducible refine brSome ?_ | with_reducible refine brF ?_ | with_reducible refine brT ?_ | ((with_reducible apply ldAt H 0); exact rfl; exact rfl) | ((with_reducible apply ldAt0 H 0); exact rfl; exact rfl) | ((with_reducible apply stAt H 0); exact rfl; exact rfl; intro h H) | ((with_reducible apply stAt0 H 0); exact rfl; exact rfl; intro h H) | ((with_reducible refine ⟨?_, ?_⟩); first | ((with_reducible apply ldAt H 0); exact rfl; exact rfl; exact rfl) | ((with_reducible apply ldAt0 H 0); exact rfl; exact rfl; exact rfl)))
    refine Insert_int_ok H 4 rfl hs (by omega) (R := _) (fun s' h' H => ?_) fun b h' hc => hc
    repeat (first | with_reducible refine nn ?_ | with_reducible refine let_ ?_ | with_reducible refine brSome ?_ | with_reducible refine brF ?_ | with_reducible refine brT ?_ | ((with_reducible apply ldAt H 0); exact rfl; exact rfl) | ((with_reducible apply ldAt0 H 0); exact rfl; exact rfl) | ((with_reducible apply stAt H 0); exact rfl; exact rfl; intro h H) | ((with_reducible apply stAt0 H 0); exact rfl; exact rfl; intro h H) | ((with_reducible apply allocAt H); intro h b H) | ((with_reducible refine ⟨?_, ?_⟩); first | ((with_reducible apply ldAt H 0); exact rfl; exact rfl; exact rfl) | ((with_reducible apply ldAt0 H 0); exact rfl; exact rfl; exact rfl)))
    exact hR _ _ H
theorem chase_take_ok {i : Int} {R : KL [.int .i64, .int .i64, .int .i64, .int .i64] → Int → Heap → Prop} (H : At h0 h (fiveL d ty sn nq fq vq ms z fl vs ++ G)) (hfl : fl.length ≤ 1000000)
    (hb : ¬ (0 ≤ i ∧ i < fl.length) → ∀ h', At h0 h' (fiveL d ty sn nq fq vq ms z fl vs ++ G) → R (0, 0, 0, 0, ()) 6 h')
    (hg : ∀ k : Nat, i = k → (hk : k < fl.length) → ∀ h' fq', At h0 h' (fiveL d ty sn nq fq' vq ms z (fl.take k ++ fl.drop (k + 1)) vs ++ G) → R (fl[k].start, fl[k].stamp, fl[k].round, fl[k].at_, ()) 0 h') : C_chase_Field_take (some ⟨d, 0, none⟩) i h R := by
  refine A_chase_Field_take ?_
  unfold S_chase_Field_take
  have hsn := H.n 3 rfl
  refine allocAt (cs := [.int .i64 0, .int .i64 0, .int .i64 0, .int .i64 0]) H fun h b1 H => ?_
  refine join0 (fun h2 => (0 ≤ i ∧ i < fl.length) ∧ h2 = h) (fun _ h2 hJ => ?_) ?_
  · obtain ⟨hi, rfl⟩ := hJ
    obtain ⟨k, rfl⟩ : ∃ k : Nat, i = k := ⟨i.toNat, by omega⟩
    have hk : k < fl.length := by omega
    repeat (first | with_reducible refine nn ?_ | with_reducible refine let_ ?_ | with_reducible refine brSome ?_ | with_reducible refine brF ?_ | with_reducible refine brT ?_ | ((with_reducible apply ldAt H 0); exact rfl; exact rfl) | ((with_reducible apply ldAt0 H 0); exact rfl; exact rfl) | ((with_reducible apply ldAt H 1); exact rfl; exact rfl) | ((with_reducible apply ldAt0 H 1); exact rfl; exact rfl) | ((with_reducible apply stAt H 0); exact rfl; exact rfl; intro h H) | ((with_reducible apply stAt0 H 0); exact rfl; exact rfl; intro h H) | ((with_reducible apply stAt H 1); exact rfl; exact rfl; intro h H) | ((with_reducible apply stAt0 H 1); exact rfl; exact rfl; intro h H) | ((with_reducible apply allocAt H); intro h b H) | ((with_reducible refine ⟨?_, ?_⟩); first | ((with_reducible apply ldAt H 0); exact rfl; exact rfl; exact rfl) | ((with_reducible apply ldAt0 H 0); exact rfl; exact rfl; exact rfl) | ((with_reducible apply ldAt H 1); exact rfl; exact rfl; exact rfl) | ((with_reducible apply ldAt0 H 1); exact rfl; exact rfl; exact rfl)))
    refine ixAt H 4 rfl k rfl hk fun e he => ?_
    repeat (first | with_reducible refine nn ?_ | with_reducible refine let_ ?_ | with_reducible refine brSome ?_ | with_reducible refine brF ?_ | with_reducible refine brT ?_ | ((with_reducible apply ldAt H 0); exact rfl; exact rfl) | ((with_reducible apply ldAt0 H 0); exact rfl; exact rfl) | ((with_reducible apply ldAt H 1); exact rfl; exact rfl) | ((with_reducible apply ldAt0 H 1); exact rfl; exact rfl) | ((with_reducible apply ldAt H 2); exact rfl; exact rfl) | ((with_reducible apply ldAt0 H 2); exact rfl; exact rfl) | ((with_reducible apply ldAt H 3); exact rfl; exact rfl) | ((with_reducible apply ldAt0 H 3); exact rfl; exact rfl) | ((with_reducible apply ldAt H 4); exact rfl; exact rfl) | ((with_reducible apply ldAt0 H 4); exact rfl; exact rfl) | ((with_reducible apply ldEl H 0); exact rfl; assumption; (case hk => assumption); exact rfl) | ((with_reducible apply ldEl0 H 0); exact rfl; assumption; (case hk => assumption); exact rfl) | ((with_reducible apply ldElS H 0); exact rfl; assumption; (case hk => assumption); exact rfl) | ((with_reducible apply ldElS0 H 0); exact rfl; assumption; (case hk => assumption); exact rfl) | ((with_reducible apply ldEl H 1); exact rfl; assumption; (case hk => assumption); exact rfl) | ((with_reducible apply ldEl0 H 1); exact rfl; assumption; (case hk => assumption); exact rfl) | ((with_reducible apply ldElS H 1); exact rfl; assumption; (case hk => assumption); exact rfl) | ((with_reducible apply ldElS0 H 1); exact rfl; assumption; (case hk => assumption); exact rfl) | ((with_reducible apply ldEl H 2); exact rfl; assumption; (case hk => assumption); exact rfl) | ((with_reducible apply ldEl0 H 2); exact rfl; assumption; (case hk => assumption); exact rfl) | ((with_reducible apply ldElS H 2); exact rfl; assumption; (case hk => assumption); exact rfl) | ((with_reducible apply ldElS0 H 2); exact rfl; assumption; (case hk => assumption); exact rfl) | ((with_reducible apply ldEl H 3); exact rfl; assumption; (case hk => assumption); exact rfl) | ((with_reducible apply ldEl0 H 3); exact rfl; assumption; (case hk => assumption); exact rfl) | ((with_reducible apply ldElS H 3); exact rfl; assumption; (case hk => assumption); exact rfl) | ((with_reducible apply ldElS0 H 3); exact rfl; assumption; (case hk => assumption); exact rfl) | ((with_reducible apply ldEl H 4); exact rfl; assumption; (case hk => assumption); exact rfl) | ((with_reducible apply ldEl0 H 4); exact rfl; assumption; (case hk => assumption); exact rfl) | ((with_reducible apply ldElS H 4); exact rfl; assumption; (case hk => assumption); exact rfl) | ((with_reducible apply ldElS0 H 4); exact rfl; assumption; (case hk => assumption); exact rfl) | ((with_reducible apply stAt H 0); exact rfl; exact rfl; intro h H) | ((with_reducible apply stAt0 H 0); exact rfl; exact rfl; intro h H) | ((with_reducible apply stAt H 1); exact rfl; exact rfl; intro h H) | ((with_reducible apply stAt0 H 1); exact rfl; exact rfl; intro h H) | ((with_reducible apply stAt H 2); exact rfl; exact rfl; intro h H) | ((with_reducible apply stAt0 H 2); exact rfl; exact rfl; intro h H) | ((with_reducible apply stAt H 3); exact rfl; exact rfl; intro h H) | ((with_reducible apply stAt0 H 3); exact rfl; exact rfl; intro h H) | ((with_reducible apply stAt H 4); exact rfl; exact rfl; intro h H) | ((with_reducible apply stAt0 H 4); exact rfl; exact rfl; intro h H) | ((with_reducible apply stElS (E := eCP) ⟨_, _, _, _⟩ H 0); exact rfl; assumption; (case hk => assumption); exact rfl; (first | exact rfl | (dsimp only [eCP, List.set_cons_succ, List.set_cons_zero] <;> exact rfl)); intro h H) | ((with_reducible apply stElS0 (E := eCP) ⟨_, _, _, _⟩ H 0); exact rfl; assumption; (case hk => assumption); (first | exact rfl | (dsimp only [eCP, List.set_cons_succ, List.set_cons_zero] <;> exact rfl)); intro h H) | ((with_reducible apply stEl (E := eCP) ⟨_, _, _, _⟩ H 0); exact rfl; assumption; (case hk => assumption); exact rfl; (first | exact rfl | (dsimp only [eCP, List.set_cons_succ, List.set_cons_zero] <;> exact rfl)); intro h H) | ((with_reducible apply stEl0 (E := eCP) ⟨_, _, _, _⟩ H 0); exact rfl; assumption; (case hk => assumption); (first | exact rfl | (dsimp only [eCP, List.set_cons_succ, List.set_cons_zero] <;> exact rfl)); intro h H) | ((with_reducible apply stElS (E := eCP) ⟨_, _, _, _⟩ H 1); exact rfl; assumption; (case hk => assumption); exact rfl; (first | exact rfl | (dsimp only [eCP, List.set_cons_succ, List.set_cons_zero] <;> exact rfl)); intro h H) | ((with_reducible apply stElS0 (E := eCP) ⟨_, _, _, _⟩ H 1); exact rfl; assumption; (case hk => assumption); (first | exact rfl | (dsimp only [eCP, List.set_cons_succ, List.set_cons_zero] <;> exact rfl)); intro h H) | ((with_reducible apply stEl (E := eCP) ⟨_, _, _, _⟩ H 1); exact rfl; assumption; (case hk => assumption); exact rfl; (first | exact rfl | (dsimp only [eCP, List.set_cons_succ, List.set_cons_zero] <;> exact rfl)); intro h H) | ((with_reducible apply stEl0 (E := eCP) ⟨_, _, _, _⟩ H 1); exact rfl; assumption; (case hk => assumption); (first | exact rfl | (dsimp only [eCP, List.set_cons_succ, List.set_cons_zero] <;> exact rfl)); intro h H) | ((with_reducible apply stElS (E := eCP) ⟨_, _, _, _⟩ H 2); exact rfl; assumption; (case hk => assumption); exact rfl; (first | exact rfl | (dsimp only [eCP, List.set_cons_succ, List.set_cons_zero] <;> exact rfl)); intro h H) | ((with_reducible apply stElS0 (E := eCP) ⟨_, _, _, _⟩ H 2); exact rfl; assumption; (case hk => assumption); (first | exact rfl | (dsimp only [eCP, List.set_cons_succ, List.set_cons_zero] <;> exact rfl)); intro h H) | ((with_reducible apply stEl (E := eCP) ⟨_, _, _, _⟩ H 2); exact rfl; assumption; (case hk => assumption); exact rfl; (first | exact rfl | (dsimp only [eCP, List.set_cons_succ, List.set_cons_zero] <;> exact rfl)); intro h H) | ((with_reducible apply stEl0 (E := eCP) ⟨_, _, _, _⟩ H 2); exact rfl; assumption; (case hk => assumption); (first | exact rfl | (dsimp only [eCP, List.set_cons_succ, List.set_cons_zero] <;> exact rfl)); intro h H) | ((with_reducible apply stElS (E := eCP) ⟨_, _, _, _⟩ H 3); exact rfl; assumption; (case hk => assumption); exact rfl; (first | exact rfl | (dsimp only [eCP, List.set_cons_succ, List.set_cons_zero] <;> exact rfl)); intro h H) | ((with_reducible apply stElS0 (E := eCP) ⟨_, _, _, _⟩ H 3); exact rfl; assumption; (case hk => assumption); (first | exact rfl | (dsimp only [eCP, List.set_cons_succ, List.set_cons_zero] <;> exact rfl)); intro h H) | ((with_reducible apply stEl (E := eCP) ⟨_, _, _, _⟩ H 3); exact rfl; assumption; (case hk => assumption); exact rfl; (first | exact rfl | (dsimp only [eCP, List.set_cons_succ, List.set_cons_zero] <;> exact rfl)); intro h H) | ((with_reducible apply stEl0 (E := eCP) ⟨_, _, _, _⟩ H 3); exact rfl; assumption; (case hk => assumption); (first | exact rfl | (dsimp only [eCP, List.set_cons_succ, List.set_cons_zero] <;> exact rfl)); intro h H) | ((with_reducible apply stElS (E := eCP) ⟨_, _, _, _⟩ H 4); exact rfl; assumption; (case hk => assumption); exact rfl; (first | exact rfl | (dsimp only [eCP, List.set_cons_succ, List.set_cons_zero] <;> exact rfl)); intro h H) | ((with_reducible apply stElS0 (E := eCP) ⟨_, _, _, _⟩ H 4); exact rfl; assumption; (case hk => assumption); (first | exact rfl | (dsimp only [eCP, List.set_cons_succ, List.set_cons_zero] <;> exact rfl)); intro h H) | ((with_reducible apply stEl (E := eCP) ⟨_, _, _, _⟩ H 4); exact rfl; assumption; (case hk => assumption); exact rfl; (first | exact rfl | (dsimp only [eCP, List.set_cons_succ, List.set_cons_zero] <;> exact rfl)); intro h H) | ((with_reducible apply stEl0 (E := eCP) ⟨_, _, _, _⟩ H 4); exact rfl; assumption; (case hk => assumption); (first | exact rfl | (dsimp only [eCP, List.set_cons_succ, List.set_cons_zero] <;> exact rfl)); intro h H) | ((with_reducible apply allocAt H); intro h b H) | ((with_reducible refine ⟨?_, ?_⟩); first | ((with_reducible apply ldAt H 0); exact rfl; exact rfl; exact rfl) | ((with_reducible apply ldAt0 H 0); exact rfl; exact rfl; exact rfl) | ((with_reducible apply ldAt H 1); exact rfl; exact rfl; exact rfl) | ((with_reducible apply ldAt0 H 1); exact rfl; exact rfl; exact rfl) | ((with_reducible apply ldAt H 2); exact rfl; exact rfl; exact rfl) | ((with_reducible apply ldAt0 H 2); exact rfl; exact rfl; exact rfl) | ((with_reducible apply ldAt H 3); exact rfl; exact rfl; exact rfl) | ((with_reducible apply ldAt0 H 3); exact rfl; exact rfl; exact rfl) | ((with_reducible apply ldAt H 4); exact rfl; exact rfl; exact rfl) | ((with_reducible apply ldAt0 H 4); exact rfl; exact rfl; exact rfl) | ((with_reducible apply ldEl H 0); exact rfl; assumption; (case hk => assumption); exact rfl; exact rfl) | ((with_reducible apply ldEl0 H 0); exact rfl; assumption; (case hk => assumption); exact rfl; exact rfl) | ((with_reducible apply ldElS H 0); exact rfl; assumption; (case hk => assumption); exact rfl; exact rfl) | ((with_reducible apply ldElS0 H 0); exact rfl; assumption; (case hk => assumption); exact rfl; exact rfl) | ((with_reducible apply ldEl H 1); exact rfl; assumption; (case hk => assumption); exact rfl; exact rfl) | ((with_reducible apply ldEl0 H 1); exact rfl; assumption; (case hk => assumption); exact rfl; exact rfl) | ((with_reducible apply ldElS H 1); exact rfl; assumption; (case hk => assumption); exact rfl; exact rfl) | ((with_reducible apply ldElS0 H 1); exact rfl; assumption; (case hk => assumption); exact rfl; exact rfl) | ((with_reducible apply ldEl H 2); exact rfl; assumption; (case hk => assumption); exact rfl; exact rfl) | ((with_reducible apply ldEl0 H 2); exact rfl; assumption; (case hk => assumption); exact rfl; exact rfl) | ((with_reducible apply ldElS H 2); exact rfl; assumption; (case hk => assumption); exact rfl; exact rfl) | ((with_reducible apply ldElS0 H 2); exact rfl; assumption; (case hk => assumption); exact rfl; exact rfl) | ((with_reducible apply ldEl H 3); exact rfl; assumption; (case hk => assumption); exact rfl; exact rfl) | ((with_reducible apply ldEl0 H 3); exact rfl; assumption; (case hk => assumption); exact rfl; exact rfl) | ((with_reducible apply ldElS H 3); exact rfl; assumption; (case hk => assumption); exact rfl; exact rfl) | ((with_reducible apply ldElS0 H 3); exact rfl; assumption; (case hk => assumption); exact rfl; exact rfl) | ((with_reducible apply ldEl H 4); exact rfl; assumption; (case hk => assumption); exact rfl; exact rfl) | ((with_reducible apply ldEl0 H 4); exact rfl; assumption; (case hk => assumption); exact rfl; exact rfl) | ((with_reducible apply ldElS H 4); exact rfl; assumption; (case hk => assumption); exact rfl; exact rfl) | ((with_reducible apply ldElS0 H 4); exact rfl; assumption; (case hk => assumption); exact rfl; exact rfl)))
    rw [w64 (by omega) (by omega)]
    refine Delete_cp_ok H 5 rfl k rfl (by omega) hk (by omega) fun s3 h H => ?_
    repeat (first | with_reducible refine nn ?_ | with_reducible refine let_ ?_ | with_reducible refine brSome ?_ | with_reducible refine brF ?_ | with_reducible refine brT ?_ | ((with_reducible apply ldAt H 0); exact rfl; exact rfl) | ((with_reducible apply ldAt0 H 0); exact rfl; exact rfl) | ((with_reducible apply ldAt H 1); exact rfl; exact rfl) | ((with_reducible apply ldAt0 H 1); exact rfl; exact rfl) | ((with_reducible apply ldAt H 2); exact rfl; exact rfl) | ((with_reducible apply ldAt0 H 2); exact rfl; exact rfl) | ((with_reducible apply stAt H 0); exact rfl; exact rfl; intro h H) | ((with_reducible apply stAt0 H 0); exact rfl; exact rfl; intro h H) | ((with_reducible apply stAt H 1); exact rfl; exact rfl; intro h H) | ((with_reducible apply stAt0 H 1); exact rfl; exact rfl; intro h H) | ((with_reducible apply stAt H 2); exact rfl; exact rfl; intro h H) | ((with_reducible apply stAt0 H 2); exact rfl; exact rfl; intro h H) | ((with_reducible apply allocAt H); intro h b H) | ((with_reducible refine ⟨?_, ?_⟩); first | ((with_reducible apply ldAt H 0); exact rfl; exact rfl; exact rfl) | ((with_reducible apply ldAt0 H 0); exact rfl; exact rfl; exact rfl) | ((with_reducible apply ldAt H 1); exact rfl; exact rfl; exact rfl) | ((with_reducible apply ldAt0 H 1); exact rfl; exact rfl; exact rfl) | ((with_reducible apply ldAt H 2); exact rfl; exact rfl; exact rfl) | ((with_reducible apply ldAt0 H 2); exact rfl; exact rfl; exact rfl)))
    exact hg k rfl hk _ _ H.tail.tail
  · refine brF (brD (fun h1 => ?_) fun h1 => ?_)
    · repeat (first | with_reducible refine nn ?_ | with_reducible refine let_ ?_ | with_reducible refine brSome ?_ | with_reducible refine brF ?_ | with_reducible refine brT ?_ | ((with_reducible apply ldAt H 0); exact rfl; exact rfl) | ((with_reducible apply ldAt0 H 0); exact rfl; exact rfl) | ((with_reducible apply stAt H 0); exact rfl; exact rfl; intro h H) | ((with_reducible apply stAt0 H 0); exact rfl; exact rfl; intro h H) | ((with_reducible apply allocAt H); intro h b H) | ((with_reducible refine ⟨?_, ?_⟩); first | ((with_reducible apply ldAt H 0); exact rfl; exact rfl; exact rfl) | ((with_reducible apply ldAt0 H 0); exact rfl; exact rfl; exact rfl)))
      exact hb (by omega) _ H.tail
    · repeat (first | with_reducible refine nn ?_ | with_reducible refine let_ ?_ | with_reducible refine brSome ?_ | with_reducible refine brF ?_ | with_reducible refine brT ?_ | ((with_reducible apply ldAt H 0); exact rfl; exact rfl) | ((with_reducible apply ldAt0 H 0); exact rfl; exact rfl) | ((with_reducible apply ldAt H 1); exact rfl; exact rfl) | ((with_reducible apply ldAt0 H 1); exact rfl; exact rfl) | ((with_reducible apply stAt H 0); exact rfl; exact rfl; intro h H) | ((with_reducible apply stAt0 H 0); exact rfl; exact rfl; intro h H) | ((with_reducible apply stAt H 1); exact rfl; exact rfl; intro h H) | ((with_reducible apply stAt0 H 1); exact rfl; exact rfl; intro h H) | ((with_reducible refine ⟨?_, ?_⟩); first | ((with_reducible apply ldAt H 0); exact rfl; exact rfl; exact rfl) | ((with_reducible apply ldAt0 H 0); exact rfl; exact rfl; exact rfl) | ((with_reducible apply ldAt H 1); exact rfl; exact rfl; exact rfl) | ((with_reducible apply ldAt0 H 1); exact rfl; exact rfl; exact rfl)))
      refine brD (fun h2 => ?_) fun h2 => ?_
      · repeat (first | with_reducible refine nn ?_ | with_reducible refine let_ ?_ | with_reducible refine brSome ?_ | with_reducible refine brF ?_ | with_reducible refine brT ?_ | ((with_reducible apply ldAt H 0); exact rfl; exact rfl) | ((with_reducible apply ldAt0 H 0); exact rfl; exact rfl) | ((with_reducible apply stAt H 0); exact rfl; exact rfl; intro h H) | ((with_reducible apply stAt0 H 0); exact rfl; exact rfl; intro h H) | ((with_reducible apply allocAt H); intro h b H) | ((with_reducible refine ⟨?_, ?_⟩); first | ((with_reducible apply ldAt H 0); exact rfl; exact rfl; exact rfl) | ((with_reducible apply ldAt0 H 0); exact rfl; exact rfl; exact rfl)))
        exact hb (by omega) _ H.tail
      · exact ⟨by omega, rfl⟩
end
end Go.Proofs.Ytmpekddpehhdnaa
