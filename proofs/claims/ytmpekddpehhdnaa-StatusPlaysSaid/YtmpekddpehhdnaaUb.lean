/-
  Layer 16 (status): the contracts of the program's calls.
-/
import Derived.Test.YtmpekddpehhdnaaUa
import Derived.Test.YtmpekddpehhdnaaRc
import Derived.Test.YtmpekddpehhdnaaSU
namespace Go.Proofs.Ytmpekddpehhdnaa
open Go

theorem brNot {b : Bool} {A B : Prop} (h1 : b = false → A) (h2 : b = true → B) : cond (!b) A B := by
  cases b
  · exact h1 rfl
  · exact h2 rfl
/-- Two rows of things, the second one made behind the first one's heap. -/
theorem At.join {h0 h h' : Heap} {L M : List Res} (H : At h0 h L) (H2 : At h h' M) : At h0 h' (M ++ L) := by
  have H' := H.ext' H2.ext
  refine ⟨H'.ext, fun r hr => ?_, fun r hr g hg => ?_, List.pairwise_append.2 ⟨H2.sep, H.sep, fun a ha b hb g hg x => ?_⟩⟩
  · rcases List.mem_append.1 hr with hr | hr
    · exact H2.ok r hr
    · exact H'.ok r hr
  · rcases List.mem_append.1 hr with hr | hr
    · exact Nat.le_trans H.le (H2.lo r hr g hg)
    · exact H.lo r hr g hg
  · have h1 := H2.lo a ha g hg
    have h2 := Res.lt b (H.ok b hb) g x
    omega
theorem allocRaw {h : Heap} {t : TypeId} {cs : List Value} {K : Addr → Heap → Prop} (hk : ∀ h' : Heap, h'[h.size]? = some (.cells cs.toArray t (0, 0)) → Ext h.size h h' → K ⟨h.size, 0, none⟩ h') : Alloc h (.cells cs.toArray t) K :=
  hk _ (by simp) (ext_push _ _ (Nat.le_refl _))
theorem TRo : ElemT Try.prog 70 81 5 40 := .of (by kernel_rfl)
theorem ZRo : ZeroT Try.prog 81 [.int .i64 0, .int .i64 0, .int .i64 0, .int .i64 0, .int .i64 0] := ⟨by kernel_rfl⟩
theorem ORo : OvT Try.prog 135 70 := ⟨Try.f135, 4, Try.func135, by kernel_rfl, by kernel_rfl, by kernel_rfl, by kernel_rfl⟩
def tabL (d : Nat) (ty : TypeId) (s : Sl) (l : List SRow) : List Res := [.blk d ty [.slice s.a s.n s.c], .own s 5 (eRow.fl l)]
section
variable {h0 h : Heap} {F L : List Res} {d : Nat} {ty : TypeId} {s : Sl} {l : List SRow} {N : Nat}
theorem cmp_ok {x y : Int} {h : Heap} {R : Int → Heap → Prop} (hl : x < y → R (-1) h) (hg : y < x → R 1 h) (he : x = y → R 0 h) : C_cmp_Compare_int x y h R := by
  refine A_cmp_Compare_int ?_
  unfold S_cmp_Compare_int
  refine A_cmp_isNaN_int (A_cmp_isNaN_int ?_)
  refine brN (by simp) (brN (by simp) ?_)
  exact brD hl fun h1 => brD hg fun h2 => he (by omega)
theorem status_find1_ok {r : SRow} {x : Int} {R : Int → Heap → Prop} (H : At h0 h L) (hR : ∀ q h', At h0 h' L → (q < 0 ↔ r.tx < x) → (q = 0 ↔ r.tx = x) → R q h') : C_status_Table_find_1 (r.tx, r.attempt, r.stamp, r.state, r.heard, ()) x h R := by
  refine A_status_Table_find_1 ?_
  unfold S_status_Table_find_1
  repeat (first | with_reducible refine nn ?_ | with_reducible refine let_ ?_ | with_reducible refine brSome ?_ | with_reducible refine brF ?_ | with_reducible refine brT ?_ | ((with_reducible apply ldAt H 0); exact rfl; exact rfl) | ((with_reducible apply ldAt0 H 0); exact rfl; exact rfl) | ((with_reducible apply stAt H 0); exact rfl; exact rfl; intro h H) | ((with_reducible apply stAt0 H 0); exact rfl; exact rfl; intro h H) | ((with_reducible apply allocAt H); intro h b H) | ((with_reducible refine ⟨?_, ?_⟩); first | ((with_reducible apply ldAt H 0); exact rfl; exact rfl; exact rfl) | ((with_reducible apply ldAt0 H 0); exact rfl; exact rfl; exact rfl)))
  refine cmp_ok (fun hc => ?_) (fun hc => ?_) fun hc => ?_
  · exact hR _ _ H.tail (by omega) (by omega)
  · exact hR _ _ H.tail (by omega) (by omega)
  · exact hR _ _ H.tail (by omega) (by omega)
theorem mid_eq {a b : Nat} (h : a + b < 4611686018427387904) : IntKind.i64.wrap (shiftV .shr .u64 (IntKind.u64.wrap (IntKind.i64.wrap ((a : Int) + (b : Int)))) 1) = (((a + b) / 2 : Nat) : Int) := by
  have e := shr_eq .u64 ((a : Int) + (b : Int)) 1 (by show 1 ≤ 64; decide)
  rw [w64 (n := (a : Int) + (b : Int)) (by omega) (by omega), wu64 (by omega) (by omega), show shiftV .shr .u64 ((a : Int) + (b : Int)) 1 = ((a : Int) + (b : Int)) / 2 ^ 1 from e, w64 (by omega) (by omega)]
  omega
theorem Search_row_ok {x : Int} {R : Int → Bool → Heap → Prop} (H : At h0 h L) (n : Nat) (hn : L[n]? = some (.own s 5 (eRow.fl l))) (hs : Srt l) (hlen : l.length ≤ 1000000)
    (hR : ∀ h', At h0 h' L → R (lo l x : Int) (cur l x).isSome h') : C_slices_BinarySearchFunc_api_Row_api_Row_int s x (.func (.func 123) #[] #[]) h R := by
  refine A_slices_BinarySearchFunc_api_Row_api_Row_int ?_
  unfold S_slices_BinarySearchFunc_api_Row_api_Row_int
  have hsn := H.n n hn
  refine let_ ?_
  refine loop2 (s1 := .one (.int .i64)) (s2 := .one (.int .i64)) (fun (i j : Int) h1 => ∃ a b : Nat, i = a ∧ j = b ∧ a ≤ b ∧ b ≤ l.length ∧ At h0 h1 L ∧ (∀ k, (hk : k < l.length) → k < a → l[k].tx < x) ∧ ∀ k, (hk : k < l.length) → b ≤ k → x ≤ l[k].tx) (fun (i j : Int) _ => (j - i).toNat)
    ⟨0, l.length, rfl, by rw [hsn], Nat.zero_le _, Nat.le_refl _, H, fun k _ hk => absurd hk (Nat.not_lt_zero _), fun k hk hk2 => by omega⟩ fun _ (i j : Int) h1 hI => ?_
  obtain ⟨a, b, rfl, rfl, hab, hbl, H, hlo, hhi⟩ := hI
  refine brD (fun hc => nneg (by decide) ?_) fun hc => ?_
  · rw [mid_eq (by omega)]
    refine let_ ?_
    have hm : (a + b) / 2 < l.length := by omega
    refine ixAt H n hn ((a + b) / 2) rfl hm fun e he => ?_
    refine ldEl0 H n hn he hm _ rfl (ldEl (j := 1) H n hn he hm _ rfl (ldEl (j := 2) H n hn he hm _ rfl (ldEl (j := 3) H n hn he hm _ rfl (ldEl (j := 4) H n hn he hm _ rfl ?_))))
    refine status_find1_ok H fun q h' H hq _ => ?_
    refine brD (fun hq0 => let_ ?_) fun hq0 => ?_
    · rw [w64 (by omega) (by omega)]
      refine ⟨⟨(a + b) / 2 + 1, b, by omega, rfl, by omega, hbl, H, fun k hk hka => ?_, hhi⟩, by omega⟩
      by_cases e : k = (a + b) / 2
      · subst e; exact hq.1 hq0
      · have h1 := hq.1 hq0
        have := srt_lt hs (show k < (a + b) / 2 by omega) hm
        omega
    · refine ⟨⟨a, (a + b) / 2, rfl, rfl, by omega, by omega, H, hlo, fun k hk hka => ?_⟩, by omega⟩
      have h1 : ¬ l[(a + b) / 2].tx < x := fun hh => hq0 (hq.2 hh)
      by_cases e : k = (a + b) / 2
      · subst e; omega
      · have := srt_lt hs (show (a + b) / 2 < k by omega) hk
        omega
  · have hab2 : a = b := by omega
    subst hab2
    have hcut : Cutp l x a := ⟨hbl, hlo, hhi⟩
    have hal := hcut.uniq (lo_cut hs x)
    refine brD (fun hlt => ?_) fun hge => ?_
    · have hm : a < l.length := by omega
      refine ixAt H n hn a rfl hm fun e he => ?_
      refine ldEl0 H n hn he hm _ rfl (ldEl (j := 1) H n hn he hm _ rfl (ldEl (j := 2) H n hn he hm _ rfl (ldEl (j := 3) H n hn he hm _ rfl (ldEl (j := 4) H n hn he hm _ rfl ?_))))
      refine status_find1_ok H fun q h' H _ hq => ?_
      have := hR h' H
      rw [hal]
      have e : (q == 0) = (cur l x).isSome := by
        unfold cur
        rw [← hal, List.getElem?_eq_getElem hm]
        simp only
        by_cases hx : l[a].tx = x
        · rw [if_pos hx, hq.2 hx]; rfl
        · rw [if_neg hx]
          have : q ≠ 0 := fun h0 => hx (hq.1 h0)
          simpa using this
      rw [e]
      exact this
    · have e : (cur l x).isSome = false := by
        unfold cur
        rw [← hal, List.getElem?_eq_none (by omega)]
        rfl
      have := hR h1 H
      rw [e] at this
      rw [hal]
      exact this
theorem status_find_ok {x : Int} {R : Int → Bool → Heap → Prop} (H : At h0 h (tabL d ty s l ++ F)) (hs : Srt l) (hlen : l.length ≤ 1000000) (hR : ∀ h', At h0 h' (tabL d ty s l ++ F) → R (lo l x : Int) (cur l x).isSome h') : C_status_Table_find (some ⟨d, 0, none⟩) x h R := by
  refine A_status_Table_find ?_
  unfold S_status_Table_find
  repeat (first | with_reducible refine nn ?_ | with_reducible refine let_ ?_ | with_reducible refine brSome ?_ | with_reducible refine brF ?_ | with_reducible refine brT ?_ | ((with_reducible apply ldAt H 0); exact rfl; exact rfl) | ((with_reducible apply ldAt0 H 0); exact rfl; exact rfl) | ((with_reducible apply stAt H 0); exact rfl; exact rfl; intro h H) | ((with_reducible apply stAt0 H 0); exact rfl; exact rfl; intro h H) | ((with_reducible apply allocAt H); intro h b H) | ((with_reducible refine ⟨?_, ?_⟩); first | ((with_reducible apply ldAt H 0); exact rfl; exact rfl; exact rfl) | ((with_reducible apply ldAt0 H 0); exact rfl; exact rfl; exact rfl)))
  exact Search_row_ok H 1 rfl hs hlen hR
theorem status_right_ok {tx attempt now : Int} {R : Bool → Heap → Prop} (hR : R (decide (rightB tx attempt now)) h) : C_status_Table_right (some ⟨d, 0, none⟩) tx attempt now h R := by
  refine A_status_Table_right ?_
  unfold S_status_Table_right
  unfold rightB at hR
  have no : ¬ (0 ≤ tx ∧ tx ≤ 1048576 ∧ 0 ≤ attempt ∧ attempt ≤ 1048576 ∧ 0 ≤ now ∧ now ≤ 1099511627776) → R false h := fun hn => by rw [decide_eq_false hn] at hR; exact hR
  refine brY rfl (brD (fun h1 => ?_) fun h1 => no (by omega))
  refine brD (fun h2 => ?_) fun h2 => no (by omega)
  refine brD (fun h3 => ?_) fun h3 => no (by omega)
  refine brD (fun h4 => ?_) fun h4 => no (by omega)
  refine brD (fun h5 => ?_) fun h5 => no (by omega)
  have e : decide (now ≤ 1099511627776) = decide (0 ≤ tx ∧ tx ≤ 1048576 ∧ 0 ≤ attempt ∧ attempt ≤ 1048576 ∧ 0 ≤ now ∧ now ≤ 1099511627776) := by
    rw [decide_eq_decide]
    exact ⟨fun h => ⟨h1, h2, h3, h4, h5, h⟩, fun h => h.2.2.2.2.2⟩
  rw [e]; exact hR
theorem status_how_ok {tx attempt : Int} {R : Int → Option Addr → Heap → Prop} (H : At h0 h (tabL d ty s l ++ F)) (hs : Srt l) (hlen : l.length ≤ 1000000) (hb : cur l tx = none → ∀ h', At h0 h' (tabL d ty s l ++ F) → R 1 none h')
    (hg : ∀ o e q h', cur l tx = some o → (hk : lo l tx < l.length) → l[lo l tx] = o → ElAt s 5 (lo l tx) e → (0 < q ↔ o.attempt < attempt) → (q < 0 ↔ attempt < o.attempt) → At h0 h' (tabL d ty s l ++ F) → R q (some e) h') : C_status_Table_how (some ⟨d, 0, none⟩) tx attempt h R := by
  refine A_status_Table_how ?_
  unfold S_status_Table_how
  refine status_find_ok H hs hlen fun h' H => ?_
  cases hc : cur l tx with
  | none => exact brT (hb hc _ H)
  | some o =>
    obtain ⟨hk, e1, e2⟩ := cur_some hs hc
    refine brF ?_
    repeat (first | with_reducible refine nn ?_ | with_reducible refine let_ ?_ | with_reducible refine brSome ?_ | with_reducible refine brF ?_ | with_reducible refine brT ?_ | ((with_reducible apply ldAt H 0); exact rfl; exact rfl) | ((with_reducible apply ldAt0 H 0); exact rfl; exact rfl) | ((with_reducible apply stAt H 0); exact rfl; exact rfl; intro h H) | ((with_reducible apply stAt0 H 0); exact rfl; exact rfl; intro h H) | ((with_reducible apply allocAt H); intro h b H) | ((with_reducible refine ⟨?_, ?_⟩); first | ((with_reducible apply ldAt H 0); exact rfl; exact rfl; exact rfl) | ((with_reducible apply ldAt0 H 0); exact rfl; exact rfl; exact rfl)))
    refine ixAt H 1 rfl (lo l tx) rfl hk fun e he => ?_
    refine ldEl (j := 1) H 1 rfl he hk o.attempt (by rw [e1]; rfl) ?_
    repeat (first | with_reducible refine nn ?_ | with_reducible refine let_ ?_ | with_reducible refine brSome ?_ | with_reducible refine brF ?_ | with_reducible refine brT ?_ | ((with_reducible apply ldAt H 0); exact rfl; exact rfl) | ((with_reducible apply ldAt0 H 0); exact rfl; exact rfl) | ((with_reducible apply stAt H 0); exact rfl; exact rfl; intro h H) | ((with_reducible apply stAt0 H 0); exact rfl; exact rfl; intro h H) | ((with_reducible apply allocAt H); intro h b H) | ((with_reducible refine ⟨?_, ?_⟩); first | ((with_reducible apply ldAt H 0); exact rfl; exact rfl; exact rfl) | ((with_reducible apply ldAt0 H 0); exact rfl; exact rfl; exact rfl)))
    refine ixAt H 1 rfl (lo l tx) rfl hk fun e he => ?_
    refine cmp_ok (fun hcm => ⟨ldAt0 H 0 rfl _ rfl rfl, ?_⟩) (fun hcm => ⟨ldAt0 H 0 rfl _ rfl rfl, ?_⟩) fun hcm => ⟨ldAt0 H 0 rfl _ rfl rfl, ?_⟩
    · exact hg o e _ _ hc hk e1 he (by omega) (by omega) H
    · exact hg o e _ _ hc hk e1 he (by omega) (by omega) H
    · exact hg o e _ _ hc hk e1 he (by omega) (by omega) H
theorem status_put_ok {r : SRow} {R : Int → Int → Heap → Prop} (H : At h0 h (tabL d ty s l ++ F)) (ho : SOk N l) (hN : N ≤ 100000) (hR : ∀ h' s', At h0 h' (tabL d ty s' (putM l r).1 ++ F) → R (putM l r).2.1 (putM l r).2.2 h') : C_status_Table_put (some ⟨d, 0, none⟩) (r.tx, r.attempt, r.stamp, r.state, r.heard, ()) h R := by
  refine A_status_Table_put ?_
  unfold S_status_Table_put
  have hs := ho.srt
  have hln := ho.len
  repeat (first | with_reducible refine nn ?_ | with_reducible refine let_ ?_ | with_reducible refine brSome ?_ | with_reducible refine brF ?_ | with_reducible refine brT ?_ | ((with_reducible apply ldAt H 0); exact rfl; exact rfl) | ((with_reducible apply ldAt0 H 0); exact rfl; exact rfl) | ((with_reducible apply stAt H 0); exact rfl; exact rfl; intro h H) | ((with_reducible apply stAt0 H 0); exact rfl; exact rfl; intro h H) | ((with_reducible apply allocAt H); intro h b H) | ((with_reducible refine ⟨?_, ?_⟩); first | ((with_reducible apply ldAt H 0); exact rfl; exact rfl; exact rfl) | ((with_reducible apply ldAt0 H 0); exact rfl; exact rfl; exact rfl)))
  rename Nat => p1
  refine status_find_ok (F := _ :: F) (H.mv 1 2) hs (by omega) fun h' H => ?_
  have hsn := H.n 1 rfl
  have tmp : ∀ {h' : Heap} {s' : Sl} {l' : List SRow} {q : Res}, At h0 h' (tabL d ty s' l' ++ (q :: F)) → At h0 h' (tabL d ty s' l' ++ F) := fun H => (H.mv 2 1).tail
  unfold putM at hR
  cases hc : cur l r.tx with
  | none =>
    rw [hc] at hR
    refine brT ?_
    have hle := (lo_cut hs r.tx).le
    repeat (first | with_reducible refine nn ?_ | with_reducible refine let_ ?_ | with_reducible refine brSome ?_ | with_reducible refine brF ?_ | with_reducible refine brT ?_ | ((with_reducible apply ldAt H 0); exact rfl; exact rfl) | ((with_reducible apply ldAt0 H 0); exact rfl; exact rfl) | ((with_reducible apply ldAt H 1); exact rfl; exact rfl) | ((with_reducible apply ldAt0 H 1); exact rfl; exact rfl) | ((with_reducible apply ldAt H 2); exact rfl; exact rfl) | ((with_reducible apply ldAt0 H 2); exact rfl; exact rfl) | ((with_reducible apply stAt H 0); exact rfl; exact rfl; intro h H) | ((with_reducible apply stAt0 H 0); exact rfl; exact rfl; intro h H) | ((with_reducible apply stAt H 1); exact rfl; exact rfl; intro h H) | ((with_reducible apply stAt0 H 1); exact rfl; exact rfl; intro h H) | ((with_reducible apply stAt H 2); exact rfl; exact rfl; intro h H) | ((with_reducible apply stAt0 H 2); exact rfl; exact rfl; intro h H) | ((with_reducible refine ⟨?_, ?_⟩); first | ((with_reducible apply ldAt H 0); exact rfl; exact rfl; exact rfl) | ((with_reducible apply ldAt0 H 0); exact rfl; exact rfl; exact rfl) | ((with_reducible apply ldAt H 1); exact rfl; exact rfl; exact rfl) | ((with_reducible apply ldAt0 H 1); exact rfl; exact rfl; exact rfl) | ((with_reducible apply ldAt H 2); exact rfl; exact rfl; exact rfl) | ((with_reducible apply ldAt0 H 2); exact rfl; exact rfl; exact rfl)))
    have hbl := (H.own 1 rfl).below
    refine allocRaw fun h2 hb2 e2 => ?_
    have H2 := H.ext' e2
    refine ⟨ldAt0 H2 0 rfl _ rfl rfl, ?_⟩
    refine A_slices_Insert_api_Row_api_Row ?_
    refine insert_ok (E := eRow) (rot := fun s m h K => C_slices_rotateRight_api_Row s m h K) TRo ZRo rfl Try.underlying3 ORo H2 1 rfl (lo l r.tx) rfl hle r hb2 (fun g hg => by have := hbl g hg; omega) (by omega) (by omega) fun s' h3 H => ?_
    repeat (first | with_reducible refine nn ?_ | with_reducible refine let_ ?_ | with_reducible refine brSome ?_ | with_reducible refine brF ?_ | with_reducible refine brT ?_ | ((with_reducible apply ldAt H 0); exact rfl; exact rfl) | ((with_reducible apply ldAt0 H 0); exact rfl; exact rfl) | ((with_reducible apply ldAt H 1); exact rfl; exact rfl) | ((with_reducible apply ldAt0 H 1); exact rfl; exact rfl) | ((with_reducible apply ldAt H 2); exact rfl; exact rfl) | ((with_reducible apply ldAt0 H 2); exact rfl; exact rfl) | ((with_reducible apply stAt H 0); exact rfl; exact rfl; intro h H) | ((with_reducible apply stAt0 H 0); exact rfl; exact rfl; intro h H) | ((with_reducible apply stAt H 1); exact rfl; exact rfl; intro h H) | ((with_reducible apply stAt0 H 1); exact rfl; exact rfl; intro h H) | ((with_reducible apply stAt H 2); exact rfl; exact rfl; intro h H) | ((with_reducible apply stAt0 H 2); exact rfl; exact rfl; intro h H) | ((with_reducible apply allocAt H); intro h b H) | ((with_reducible refine ⟨?_, ?_⟩); first | ((with_reducible apply ldAt H 0); exact rfl; exact rfl; exact rfl) | ((with_reducible apply ldAt0 H 0); exact rfl; exact rfl; exact rfl) | ((with_reducible apply ldAt H 1); exact rfl; exact rfl; exact rfl) | ((with_reducible apply ldAt0 H 1); exact rfl; exact rfl; exact rfl) | ((with_reducible apply ldAt H 2); exact rfl; exact rfl; exact rfl) | ((with_reducible apply ldAt0 H 2); exact rfl; exact rfl; exact rfl)))
    exact hR _ s' (tmp H)
  | some o =>
    rw [hc] at hR
    dsimp only at hR
    obtain ⟨hk, e1, e2⟩ := cur_some hs hc
    refine brF ?_
    repeat (first | with_reducible refine nn ?_ | with_reducible refine let_ ?_ | with_reducible refine brSome ?_ | with_reducible refine brF ?_ | with_reducible refine brT ?_ | ((with_reducible apply ldAt H 0); exact rfl; exact rfl) | ((with_reducible apply ldAt0 H 0); exact rfl; exact rfl) | ((with_reducible apply stAt H 0); exact rfl; exact rfl; intro h H) | ((with_reducible apply stAt0 H 0); exact rfl; exact rfl; intro h H) | ((with_reducible apply allocAt H); intro h b H) | ((with_reducible refine ⟨?_, ?_⟩); first | ((with_reducible apply ldAt H 0); exact rfl; exact rfl; exact rfl) | ((with_reducible apply ldAt0 H 0); exact rfl; exact rfl; exact rfl)))
    refine ixAt H 1 rfl (lo l r.tx) rfl hk fun e he => ?_
    refine ldEl0 H 1 rfl he hk o.tx (by rw [e1]; rfl) (ldEl (j := 1) H 1 rfl he hk o.attempt (by rw [e1]; rfl) (ldEl (j := 2) H 1 rfl he hk o.stamp (by rw [e1]; rfl) (ldEl (j := 3) H 1 rfl he hk o.state (by rw [e1]; rfl) (ldEl (j := 4) H 1 rfl he hk o.heard (by rw [e1]; rfl) ?_))))
    repeat (first | with_reducible refine nn ?_ | with_reducible refine let_ ?_ | with_reducible refine brSome ?_ | with_reducible refine brF ?_ | with_reducible refine brT ?_ | ((with_reducible apply ldAt H 0); exact rfl; exact rfl) | ((with_reducible apply ldAt0 H 0); exact rfl; exact rfl) | ((with_reducible apply stAt H 0); exact rfl; exact rfl; intro h H) | ((with_reducible apply stAt0 H 0); exact rfl; exact rfl; intro h H) | ((with_reducible apply allocAt H); intro h b H) | ((with_reducible refine ⟨?_, ?_⟩); first | ((with_reducible apply ldAt H 0); exact rfl; exact rfl; exact rfl) | ((with_reducible apply ldAt0 H 0); exact rfl; exact rfl; exact rfl)))
    refine br bne_iff_ne (fun h3 => ?_) fun h3 => ?_
    · rw [if_pos h3] at hR
      exact hR _ s (tmp H.tail)
    · rw [if_neg h3] at hR
      repeat (first | with_reducible refine nn ?_ | with_reducible refine let_ ?_ | with_reducible refine brSome ?_ | with_reducible refine brF ?_ | with_reducible refine brT ?_ | ((with_reducible apply ldAt H 0); exact rfl; exact rfl) | ((with_reducible apply ldAt0 H 0); exact rfl; exact rfl) | ((with_reducible apply stAt H 0); exact rfl; exact rfl; intro h H) | ((with_reducible apply stAt0 H 0); exact rfl; exact rfl; intro h H) | ((with_reducible apply allocAt H); intro h b H) | ((with_reducible refine ⟨?_, ?_⟩); first | ((with_reducible apply ldAt H 0); exact rfl; exact rfl; exact rfl) | ((with_reducible apply ldAt0 H 0); exact rfl; exact rfl; exact rfl)))
      refine join0 (fun h1 => At h0 h1 (tabL d ty s l ++ (.blk p1 81 [.int .i64 r.tx, .int .i64 r.attempt, .int .i64 (if o.stamp > 0 then o.stamp else r.stamp), .int .i64 r.state, .int .i64 r.heard] :: F))) (fun _ h1 H => ?_) ?_
      · repeat (first | with_reducible refine nn ?_ | with_reducible refine let_ ?_ | with_reducible refine brSome ?_ | with_reducible refine brF ?_ | with_reducible refine brT ?_ | ((with_reducible apply ldAt H 0); exact rfl; exact rfl) | ((with_reducible apply ldAt0 H 0); exact rfl; exact rfl) | ((with_reducible apply ldAt H 1); exact rfl; exact rfl) | ((with_reducible apply ldAt0 H 1); exact rfl; exact rfl) | ((with_reducible apply ldAt H 2); exact rfl; exact rfl) | ((with_reducible apply ldAt0 H 2); exact rfl; exact rfl) | ((with_reducible apply stAt H 0); exact rfl; exact rfl; intro h H) | ((with_reducible apply stAt0 H 0); exact rfl; exact rfl; intro h H) | ((with_reducible apply stAt H 1); exact rfl; exact rfl; intro h H) | ((with_reducible apply stAt0 H 1); exact rfl; exact rfl; intro h H) | ((with_reducible apply stAt H 2); exact rfl; exact rfl; intro h H) | ((with_reducible apply stAt0 H 2); exact rfl; exact rfl; intro h H) | ((with_reducible apply allocAt H); intro h b H) | ((with_reducible refine ⟨?_, ?_⟩); first | ((with_reducible apply ldAt H 0); exact rfl; exact rfl; exact rfl) | ((with_reducible apply ldAt0 H 0); exact rfl; exact rfl; exact rfl) | ((with_reducible apply ldAt H 1); exact rfl; exact rfl; exact rfl) | ((with_reducible apply ldAt0 H 1); exact rfl; exact rfl; exact rfl) | ((with_reducible apply ldAt H 2); exact rfl; exact rfl; exact rfl) | ((with_reducible apply ldAt0 H 2); exact rfl; exact rfl; exact rfl)))
        refine ixAt H 1 rfl (lo l r.tx) rfl hk fun e he => ?_
        refine stEl0 (E := eRow) { l[lo l r.tx] with tx := r.tx } H 1 rfl he hk rfl fun h H => ?_
        refine stElS (E := eRow) (j := 1) { l[lo l r.tx] with tx := r.tx, attempt := r.attempt } H 1 rfl he hk rfl rfl fun h H => ?_
        refine stElS (E := eRow) (j := 2) { l[lo l r.tx] with tx := r.tx, attempt := r.attempt, stamp := if o.stamp > 0 then o.stamp else r.stamp } H 1 rfl he hk rfl rfl fun h H => ?_
        refine stElS (E := eRow) (j := 3) { l[lo l r.tx] with tx := r.tx, attempt := r.attempt, stamp := if o.stamp > 0 then o.stamp else r.stamp, state := r.state } H 1 rfl he hk rfl rfl fun h H => ?_
        refine stElS (E := eRow) (j := 4) { r with stamp := if o.stamp > 0 then o.stamp else r.stamp } H 1 rfl he hk rfl rfl fun h H => ?_
        repeat (first | with_reducible refine nn ?_ | with_reducible refine let_ ?_ | with_reducible refine brSome ?_ | with_reducible refine brF ?_ | with_reducible refine brT ?_ | ((with_reducible apply ldAt H 0); exact rfl; exact rfl) | ((with_reducible apply ldAt0 H 0); exact rfl; exact rfl) | ((with_reducible apply ldAt H 1); exact rfl; exact rfl) | ((with_reducible apply ldAt0 H 1); exact rfl; exact rfl) | ((with_reducible apply ldAt H 2); exact rfl; exact rfl) | ((with_reducible apply ldAt0 H 2); exact rfl; exact rfl) | ((with_reducible apply stAt H 0); exact rfl; exact rfl; intro h H) | ((with_reducible apply stAt0 H 0); exact rfl; exact rfl; intro h H) | ((with_reducible apply stAt H 1); exact rfl; exact rfl; intro h H) | ((with_reducible apply stAt0 H 1); exact rfl; exact rfl; intro h H) | ((with_reducible apply stAt H 2); exact rfl; exact rfl; intro h H) | ((with_reducible apply stAt0 H 2); exact rfl; exact rfl; intro h H) | ((with_reducible apply allocAt H); intro h b H) | ((with_reducible refine ⟨?_, ?_⟩); first | ((with_reducible apply ldAt H 0); exact rfl; exact rfl; exact rfl) | ((with_reducible apply ldAt0 H 0); exact rfl; exact rfl; exact rfl) | ((with_reducible apply ldAt H 1); exact rfl; exact rfl; exact rfl) | ((with_reducible apply ldAt0 H 1); exact rfl; exact rfl; exact rfl) | ((with_reducible apply ldAt H 2); exact rfl; exact rfl; exact rfl) | ((with_reducible apply ldAt0 H 2); exact rfl; exact rfl; exact rfl)))
        exact hR _ s (tmp H)
      · refine brD (fun hp => ?_) fun hp => ?_
        · repeat (first | with_reducible refine nn ?_ | with_reducible refine let_ ?_ | with_reducible refine brSome ?_ | with_reducible refine brF ?_ | with_reducible refine brT ?_ | ((with_reducible apply ldAt H 0); exact rfl; exact rfl) | ((with_reducible apply ldAt0 H 0); exact rfl; exact rfl) | ((with_reducible apply ldAt H 1); exact rfl; exact rfl) | ((with_reducible apply ldAt0 H 1); exact rfl; exact rfl) | ((with_reducible apply ldAt H 2); exact rfl; exact rfl) | ((with_reducible apply ldAt0 H 2); exact rfl; exact rfl) | ((with_reducible apply ldAt H 3); exact rfl; exact rfl) | ((with_reducible apply ldAt0 H 3); exact rfl; exact rfl) | ((with_reducible apply stAt H 0); exact rfl; exact rfl; intro h H) | ((with_reducible apply stAt0 H 0); exact rfl; exact rfl; intro h H) | ((with_reducible apply stAt H 1); exact rfl; exact rfl; intro h H) | ((with_reducible apply stAt0 H 1); exact rfl; exact rfl; intro h H) | ((with_reducible apply stAt H 2); exact rfl; exact rfl; intro h H) | ((with_reducible apply stAt0 H 2); exact rfl; exact rfl; intro h H) | ((with_reducible apply stAt H 3); exact rfl; exact rfl; intro h H) | ((with_reducible apply stAt0 H 3); exact rfl; exact rfl; intro h H) | ((with_reducible apply allocAt H); intro h b H) | ((with_reducible refine ⟨?_, ?_⟩); first | ((with_reducible apply ldAt H 0); exact rfl; exact rfl; exact rfl) | ((with_reducible apply ldAt0 H 0); exact rfl; exact rfl; exact rfl) | ((with_reducible apply ldAt H 1); exact rfl; exact rfl; exact rfl) | ((with_reducible apply ldAt0 H 1); exact rfl; exact rfl; exact rfl) | ((with_reducible apply ldAt H 2); exact rfl; exact rfl; exact rfl) | ((with_reducible apply ldAt0 H 2); exact rfl; exact rfl; exact rfl) | ((with_reducible apply ldAt H 3); exact rfl; exact rfl; exact rfl) | ((with_reducible apply ldAt0 H 3); exact rfl; exact rfl; exact rfl)))
          rw [if_pos hp]
          exact H.tail
        · rw [if_neg hp]
          exact H.tail
end
end Go.Proofs.Ytmpekddpehhdnaa
