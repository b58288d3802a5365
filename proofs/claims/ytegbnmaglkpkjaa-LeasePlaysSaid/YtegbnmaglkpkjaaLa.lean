/-
  Layer 30 (lease): contracts of the document's calls, two: how many granted; what comes.
-/
import Derived.Test.YtegbnmaglkpkjaaL9
namespace Go.Proofs.Ytegbnmaglkpkjaa
open Go

theorem brNot {b : Bool} {A B : Prop} (h1 : b = false → A) (h2 : b = true → B) : cond (!b) A B := by
  cases b
  · exact h1 rfl
  · exact h2 rfl
theorem anyG_step {G : List LG} {to rd : Int} {i m : Nat} (hm : m < G.length) : anyG (G.take (m + 1)) to rd i = (anyG (G.take m) to rd i || (G[m].from_ == (i : Int) && (G[m].to == to && G[m].round == rd))) := by
  unfold anyG
  rw [List.take_succ_eq_append_getElem hm, List.any_append, List.any_cons, List.any_nil, Bool.or_false]
section
variable {h0 h : Heap} {F : List Res} {d : Nat} {f : LF} {N : Int}
theorem ref30_granted_ok {X : RL} {ln sk to rd : Int} {R : Int → Heap → Prop} (H : At h0 h (refL d ln sk X ++ F)) (hl : X.C.length ≤ 7) (hgl : X.G.length ≤ 10000000)
    (hR : ∀ h', At h0 h' (refL d ln sk X ++ F) → R (gsum X.G to rd X.C.length : Nat) h') : C_ref30_Field_granted (some ⟨d, 0, none⟩) to rd h R := by
  have hn := H.n 1 rfl
  have hgn := H.n 7 rfl
  refine A_ref30_Field_granted ?_
  unfold S_ref30_Field_granted
  repeat (first | with_reducible refine nn ?_ | with_reducible refine let_ ?_ | with_reducible refine brSome ?_ | with_reducible refine brF ?_ | with_reducible refine brT ?_ | ((with_reducible apply ldAt H 0); exact rfl; exact rfl) | ((with_reducible apply ldAt0 H 0); exact rfl; exact rfl) | ((with_reducible apply stAt H 0); exact rfl; exact rfl; intro h H) | ((with_reducible apply stAt0 H 0); exact rfl; exact rfl; intro h H) | ((with_reducible apply allocAt H); intro h b H) | ((with_reducible refine ⟨?_, ?_⟩); first | ((with_reducible apply ldAt H 0); exact rfl; exact rfl; exact rfl) | ((with_reducible apply ldAt0 H 0); exact rfl; exact rfl; exact rfl)))
  refine loop2 (s1 := .one (.int .i64)) (s2 := .one (.int .i64)) (fun (n x : Int) h1 => ∃ j : Nat, x = j ∧ j ≤ X.C.length ∧ n = (gsum X.G to rd j : Nat) ∧ At h0 h1 (refL d ln sk X ++ F)) (fun (_ x : Int) _ => (X.C.length - x).toNat) ⟨0, rfl, Nat.zero_le _, rfl, H⟩ fun _ (n x : Int) h1 hI => ?_
  obtain ⟨j, rfl, hj, rfl, H⟩ := hI
  have hgs := gsum_le X.G to rd j
  refine brD (fun hc => ?_) fun hc => ?_
  · have hj2 : j < X.C.length := by omega
    repeat (first | with_reducible refine nn ?_ | with_reducible refine let_ ?_ | with_reducible refine brSome ?_ | with_reducible refine brF ?_ | with_reducible refine brT ?_ | ((with_reducible apply ldAt H 0); exact rfl; exact rfl) | ((with_reducible apply ldAt0 H 0); exact rfl; exact rfl) | ((with_reducible apply stAt H 0); exact rfl; exact rfl; intro h H) | ((with_reducible apply stAt0 H 0); exact rfl; exact rfl; intro h H) | ((with_reducible apply allocAt H); intro h b H) | ((with_reducible refine ⟨?_, ?_⟩); first | ((with_reducible apply ldAt H 0); exact rfl; exact rfl; exact rfl) | ((with_reducible apply ldAt0 H 0); exact rfl; exact rfl; exact rfl)))
    refine loop2 (s1 := .one (.int .i64)) (s2 := .one (.int .i64)) (fun (n x : Int) h2 => ∃ m : Nat, x = m ∧ m ≤ X.G.length ∧ n = (if anyG (X.G.take m) to rd j = true then 1 else 0) ∧ At h0 h2 (refL d ln sk X ++ F)) (fun (_ x : Int) _ => (X.G.length - x).toNat) ⟨0, rfl, Nat.zero_le _, by rw [List.take_zero]; rfl, H⟩ fun _ (n x : Int) h2 hI => ?_
    obtain ⟨m, rfl, hm, hy, H⟩ := hI
    refine brD (fun hc2 => ?_) fun hc2 => ?_
    · have hm2 : m < X.G.length := by omega
      have hst := anyG_step (to := to) (rd := rd) (i := j) hm2
      refine ixAt (E := eG) H 7 rfl m rfl hm2 fun e he => ?_
      refine ldEl0 (E := eG) H 7 rfl he hm2 X.G[m].from_ rfl ?_
      refine ldEl (E := eG) (j := 1) H 7 rfl he hm2 X.G[m].to rfl ?_
      refine ldEl (E := eG) (j := 2) H 7 rfl he hm2 X.G[m].round rfl ?_
      refine allocAt (cs := [.int .i64 0, .int .i64 0, .int .i64 0]) H fun h b H => ?_
      repeat (first | with_reducible refine nn ?_ | with_reducible refine let_ ?_ | with_reducible refine brSome ?_ | with_reducible refine brF ?_ | with_reducible refine brT ?_ | ((with_reducible apply ldAt H 0); exact rfl; exact rfl) | ((with_reducible apply ldAt0 H 0); exact rfl; exact rfl) | ((with_reducible apply stAt H 0); exact rfl; exact rfl; intro h H) | ((with_reducible apply stAt0 H 0); exact rfl; exact rfl; intro h H) | ((with_reducible apply allocAt H); intro h b H) | ((with_reducible refine ⟨?_, ?_⟩); first | ((with_reducible apply ldAt H 0); exact rfl; exact rfl; exact rfl) | ((with_reducible apply ldAt0 H 0); exact rfl; exact rfl; exact rfl)))
      rw [w64 (n := (m : Int) + 1) (by omega) (by omega)]
      refine br beq_iff_eq (fun h1 => ?_) fun h1 => ?_
      · repeat (first | with_reducible refine nn ?_ | with_reducible refine let_ ?_ | with_reducible refine brSome ?_ | with_reducible refine brF ?_ | with_reducible refine brT ?_ | ((with_reducible apply ldAt H 0); exact rfl; exact rfl) | ((with_reducible apply ldAt0 H 0); exact rfl; exact rfl) | ((with_reducible apply stAt H 0); exact rfl; exact rfl; intro h H) | ((with_reducible apply stAt0 H 0); exact rfl; exact rfl; intro h H) | ((with_reducible apply allocAt H); intro h b H) | ((with_reducible refine ⟨?_, ?_⟩); first | ((with_reducible apply ldAt H 0); exact rfl; exact rfl; exact rfl) | ((with_reducible apply ldAt0 H 0); exact rfl; exact rfl; exact rfl)))
        refine br beq_iff_eq (fun h2 => ?_) fun h2 => ?_
        · repeat (first | with_reducible refine nn ?_ | with_reducible refine let_ ?_ | with_reducible refine brSome ?_ | with_reducible refine brF ?_ | with_reducible refine brT ?_ | ((with_reducible apply ldAt H 0); exact rfl; exact rfl) | ((with_reducible apply ldAt0 H 0); exact rfl; exact rfl) | ((with_reducible apply stAt H 0); exact rfl; exact rfl; intro h H) | ((with_reducible apply stAt0 H 0); exact rfl; exact rfl; intro h H) | ((with_reducible apply allocAt H); intro h b H) | ((with_reducible refine ⟨?_, ?_⟩); first | ((with_reducible apply ldAt H 0); exact rfl; exact rfl; exact rfl) | ((with_reducible apply ldAt0 H 0); exact rfl; exact rfl; exact rfl)))
          refine br beq_iff_eq (fun h3 => ?_) fun h3 => ?_
          · refine ⟨⟨m + 1, by omega, by omega, ?_, H.tail⟩, by omega⟩
            rw [hst, if_pos]
            rw [h1, h2, h3]; simp
          · refine ⟨⟨m + 1, by omega, by omega, ?_, H.tail⟩, by omega⟩
            have : (X.G[m].round == rd) = false := by rw [beq_eq_false_iff_ne]; exact h3
            rw [hst, this, Bool.and_false, Bool.and_false, Bool.or_false]; exact hy
        · refine ⟨⟨m + 1, by omega, by omega, ?_, H.tail⟩, by omega⟩
          have : (X.G[m].to == to) = false := by rw [beq_eq_false_iff_ne]; exact h2
          rw [hst, this, Bool.false_and, Bool.and_false, Bool.or_false]; exact hy
      · refine ⟨⟨m + 1, by omega, by omega, ?_, H.tail⟩, by omega⟩
        have : (X.G[m].from_ == (j : Int)) = false := by rw [beq_eq_false_iff_ne]; exact h1
        rw [hst, this, Bool.false_and, Bool.or_false]; exact hy
    · obtain rfl : m = X.G.length := by omega
      rw [List.take_length] at hy
      have e : gsum X.G to rd (j + 1) = gsum X.G to rd j + if anyG X.G to rd j = true then 1 else 0 := rfl
      have e2 : ((gsum X.G to rd j : Nat) : Int) + n = (gsum X.G to rd (j + 1) : Nat) := by
        rw [e, hy]
        split <;> simp
      have := gsum_le X.G to rd (j + 1)
      rw [e2, w64 (by omega) (by omega), w64 (n := (j : Int) + 1) (by omega) (by omega)]
      exact let_ ⟨⟨j + 1, by omega, by omega, rfl, H⟩, by omega⟩
  · obtain rfl : j = X.C.length := by omega
    exact hR _ H
set_option maxHeartbeats 1600000 in
theorem ref30_Deliver_ok {o : Nat → Int} {i : Int} {R : Int → Heap → Prop} (H : RefAt h0 h d f N F) (ho : LOk N f) (I : LInv f o) (hb : (i < 0 ∨ (f.fl.length : Int) ≤ i) → R 6 h)
    (hg : ∀ (k : Nat), i = k → (hk : k < f.fl.length) → (ht : f.fl[k].to.toNat < f.l.length) → ∀ h', RefAt h0 h' d (deliverM f k f.fl[k] f.l[f.fl[k].to.toNat]) (N + 1) F → R 0 h') : C_ref30_Field_Deliver (some ⟨d, 0, none⟩) i h R := by
  obtain ⟨X, H, Q, hX⟩ := H
  have hN := ho.N
  have h7 := ho.n7
  have hfl := ho.fl
  have hgl := Q.gl
  have hlen := ho.len
  have hskew := ho.skew
  have hn := H.n 8 rfl
  have hXl : X.FL.length = f.fl.length := by rw [hX]
  refine A_ref30_Field_Deliver ?_
  unfold S_ref30_Field_Deliver
  refine join1 (s1 := .one .bool) (fun (b : Bool) g => b = decide (i < 0 ∨ (f.fl.length : Int) ≤ i) ∧ g = h) (fun _ (b : Bool) g hJ => ?_) ?_
  · obtain ⟨rfl, rfl⟩ := hJ
    refine brD (fun hc => hb hc) fun hc => ?_
    obtain ⟨k, rfl⟩ : ∃ k : Nat, i = k := ⟨i.toNat, by omega⟩
    have hk : k < f.fl.length := by omega
    have hp := ho.pk _ (List.getElem_mem hk)
    have hpm : f.fl[k] ∈ f.fl := List.getElem_mem hk
    have hpt0 : f.fl[k].to.toNat < f.l.length := by omega
    have hg : ∀ h', RefAt h0 h' d (deliverM f k f.fl[k] (f.nd f.fl[k].to.toNat)) (N + 1) F → R 0 h' := fun h' H => hg k rfl hk hpt0 h' (by rw [← nd_get hpt0]; exact H)
    clear hpt0
    have hkx : X.FL[k]'(by omega) = f.fl[k] := by simp only [hX]
    generalize hpk : f.fl[k] = p at hp hpm hg hkx
    obtain ⟨t, ht⟩ : ∃ t : Nat, p.to = t := ⟨p.to.toNat, by omega⟩
    obtain ⟨q, hq⟩ : ∃ q : Nat, p.from_ = q := ⟨p.from_.toNat, by omega⟩
    have htn : p.to.toNat = t := by omega
    have htl : t < f.l.length := by omega
    have hx := ho.nd _ (List.getElem_mem htl)
    have hnd : f.nd t = f.l[t] := nd_get htl
    rw [htn, hnd] at hg
    have hlc := Q.lc
    have hlr := Q.lr
    have hlb := Q.lb
    have hlt := Q.lt
    have hlw := Q.lw
    have hlp := Q.lp
    have hct : cv X.C t = f.l[t].clock := (Q.c t htl).trans (by rw [hnd])
    have hrt : cv X.R t = f.l[t].round := (Q.r t htl).trans (by rw [hnd])
    have hwt : cv X.W t = f.l[t].whom := (Q.w t htl).trans (by rw [hnd])
    have hpt : cv X.P t = f.l[t].until_ := (Q.p t htl).trans (by rw [hnd])
    have htt : cv X.T t = f.l[t].till := (Q.t t htl).trans (by rw [hnd])
    repeat (first | with_reducible refine nn ?_ | with_reducible refine let_ ?_ | with_reducible refine brSome ?_ | with_reducible refine brF ?_ | with_reducible refine brT ?_ | ((with_reducible apply ldAt H 0); exact rfl; exact rfl) | ((with_reducible apply ldAt0 H 0); exact rfl; exact rfl) | ((with_reducible apply stAt H 0); exact rfl; exact rfl; intro h H) | ((with_reducible apply stAt0 H 0); exact rfl; exact rfl; intro h H) | ((with_reducible apply allocAt H); intro h b H) | ((with_reducible refine ⟨?_, ?_⟩); first | ((with_reducible apply ldAt H 0); exact rfl; exact rfl; exact rfl) | ((with_reducible apply ldAt0 H 0); exact rfl; exact rfl; exact rfl)))
    refine ixAt (E := ePkt) H 8 rfl k rfl (by omega) fun e he => ?_
    refine ldEl0 (E := ePkt) H 8 rfl he (by omega) p.from_ (by rw [hkx]; rfl) ?_
    refine ldEl (E := ePkt) (j := 1) H 8 rfl he (by omega) p.to (by rw [hkx]; rfl) ?_
    refine ldEl (E := ePkt) (j := 2) H 8 rfl he (by omega) p.round (by rw [hkx]; rfl) ?_
    refine ldEl (E := ePkt) (kd := .bool) (j := 3) H 8 rfl he (by omega) p.answer (by rw [hkx]; rfl) ?_
    refine allocAt (cs := [.int .i64 0, .int .i64 0, .int .i64 0, .bool false]) H fun h b H => ?_
    repeat (first | with_reducible refine nn ?_ | with_reducible refine let_ ?_ | with_reducible refine brSome ?_ | with_reducible refine brF ?_ | with_reducible refine brT ?_ | ((with_reducible apply ldAt H 0); exact rfl; exact rfl) | ((with_reducible apply ldAt0 H 0); exact rfl; exact rfl) | ((with_reducible apply stAt H 0); exact rfl; exact rfl; intro h H) | ((with_reducible apply stAt0 H 0); exact rfl; exact rfl; intro h H) | ((with_reducible apply allocAt H); intro h b H) | ((with_reducible refine ⟨?_, ?_⟩); first | ((with_reducible apply ldAt H 0); exact rfl; exact rfl; exact rfl) | ((with_reducible apply ldAt0 H 0); exact rfl; exact rfl; exact rfl)))
    have H : At h0 h (refL d f.len f.skew X ++ (.blk b 118 [.int .i64 p.from_, .int .i64 p.to, .int .i64 p.round, .bool p.answer] :: F)) := H.mv 1 9
    refine ref30_Drop_ok H (by omega) (fun hb => by omega) fun k' hk' _ h2 sf H => ?_
    obtain rfl : k = k' := by omega
    have hFL : X.FL.take k ++ X.FL.drop (k + 1) = (dropM f k).fl := by rw [hX]; rfl
    have hdl : (dropM f k).fl.length + 1 = f.fl.length := drop_len hk
    rw [hFL] at H
    have hnc : X.sc.n = X.C.length := H.n 1 rfl
    have fin : ∀ {h' : Heap} {f' : LF} {Y : RL}, f'.len = f.len → f'.skew = f.skew → LR (N + 1) f' Y.C Y.R Y.B Y.T Y.W Y.P Y.G → Y.FL = f'.fl → deliverM f k p f.l[t] = f' → At h0 h' (refL d f.len f.skew Y ++ (.blk b 118 [.int .i64 p.from_, .int .i64 p.to, .int .i64 p.round, .bool p.answer] :: F)) → R 0 h' := fun {h' f' Y} h1 h2 h3 h4 h5 H => by
      rw [h5] at hg
      refine hg _ ⟨Y, ?_, h3, h4⟩
      rw [h1, h2]
      exact H.del 9
    have hm := drop_mem (f := f) (i := k)
    repeat (first | with_reducible refine nn ?_ | with_reducible refine let_ ?_ | with_reducible refine brSome ?_ | with_reducible refine brF ?_ | with_reducible refine brT ?_ | ((with_reducible apply ldAt H 0); exact rfl; exact rfl) | ((with_reducible apply ldAt0 H 0); exact rfl; exact rfl) | ((with_reducible apply ldAt H 9); exact rfl; exact rfl) | ((with_reducible apply ldAt0 H 9); exact rfl; exact rfl) | ((with_reducible apply stAt H 0); exact rfl; exact rfl; intro h H) | ((with_reducible apply stAt0 H 0); exact rfl; exact rfl; intro h H) | ((with_reducible apply stAt H 9); exact rfl; exact rfl; intro h H) | ((with_reducible apply stAt0 H 9); exact rfl; exact rfl; intro h H) | ((with_reducible apply allocAt H); intro h b H) | ((with_reducible refine ⟨?_, ?_⟩); first | ((with_reducible apply ldAt H 0); exact rfl; exact rfl; exact rfl) | ((with_reducible apply ldAt0 H 0); exact rfl; exact rfl; exact rfl) | ((with_reducible apply ldAt H 9); exact rfl; exact rfl; exact rfl) | ((with_reducible apply ldAt0 H 9); exact rfl; exact rfl; exact rfl)))
    refine brNot (fun ha => ?_) fun ha => ?_
    · refine join1 (s1 := .one .bool) (fun (y : Bool) g => y = decide (¬ (f.l[t].whom ≠ p.from_ ∧ f.l[t].clock < f.l[t].until_)) ∧ g = h2) (fun _ (y : Bool) g hJ => ?_) ?_
      · obtain ⟨rfl, rfl⟩ := hJ
        refine join0 (fun g => R 0 g) (fun _ g hJ => hJ) ?_
        have hdm : deliverM f k p f.l[t] = askedM (dropM f k) p t f.l[t] := by unfold deliverM; rw [if_neg (by rw [ha]; decide), htn]
        refine brD (fun hy => ?_) fun hy => ?_
        · repeat (first | with_reducible refine nn ?_ | with_reducible refine let_ ?_ | with_reducible refine brSome ?_ | with_reducible refine brF ?_ | with_reducible refine brT ?_ | ((with_reducible apply ldAt H 0); exact rfl; exact rfl) | ((with_reducible apply ldAt0 H 0); exact rfl; exact rfl) | ((with_reducible apply ldAt H 9); exact rfl; exact rfl) | ((with_reducible apply ldAt0 H 9); exact rfl; exact rfl) | ((with_reducible apply stAt H 0); exact rfl; exact rfl; intro h H) | ((with_reducible apply stAt0 H 0); exact rfl; exact rfl; intro h H) | ((with_reducible apply stAt H 9); exact rfl; exact rfl; intro h H) | ((with_reducible apply stAt0 H 9); exact rfl; exact rfl; intro h H) | ((with_reducible apply allocAt H); intro h b H) | ((with_reducible refine ⟨?_, ?_⟩); first | ((with_reducible apply ldAt H 0); exact rfl; exact rfl; exact rfl) | ((with_reducible apply ldAt0 H 0); exact rfl; exact rfl; exact rfl) | ((with_reducible apply ldAt H 9); exact rfl; exact rfl; exact rfl) | ((with_reducible apply ldAt0 H 9); exact rfl; exact rfl; exact rfl)))
          refine ixAt H 1 rfl t ht (by show t < X.C.length; omega) fun e he => ?_
          refine ldI H 1 rfl he (by show t < X.C.length; omega) rfl ?_
          repeat (first | with_reducible refine nn ?_ | with_reducible refine let_ ?_ | with_reducible refine brSome ?_ | with_reducible refine brF ?_ | with_reducible refine brT ?_ | ((with_reducible apply ldAt H 0); exact rfl; exact rfl) | ((with_reducible apply ldAt0 H 0); exact rfl; exact rfl) | ((with_reducible apply ldAt H 9); exact rfl; exact rfl) | ((with_reducible apply ldAt0 H 9); exact rfl; exact rfl) | ((with_reducible apply stAt H 0); exact rfl; exact rfl; intro h H) | ((with_reducible apply stAt0 H 0); exact rfl; exact rfl; intro h H) | ((with_reducible apply stAt H 9); exact rfl; exact rfl; intro h H) | ((with_reducible apply stAt0 H 9); exact rfl; exact rfl; intro h H) | ((with_reducible apply allocAt H); intro h b H) | ((with_reducible refine ⟨?_, ?_⟩); first | ((with_reducible apply ldAt H 0); exact rfl; exact rfl; exact rfl) | ((with_reducible apply ldAt0 H 0); exact rfl; exact rfl; exact rfl) | ((with_reducible apply ldAt H 9); exact rfl; exact rfl; exact rfl) | ((with_reducible apply ldAt0 H 9); exact rfl; exact rfl; exact rfl)))
          refine ixAt H 5 rfl t ht (by show t < X.W.length; omega) fun e he => ?_
          refine stI H 5 rfl he (by show t < X.W.length; omega) fun h3 H => ?_
          repeat (first | with_reducible refine nn ?_ | with_reducible refine let_ ?_ | with_reducible refine brSome ?_ | with_reducible refine brF ?_ | with_reducible refine brT ?_ | ((with_reducible apply ldAt H 0); exact rfl; exact rfl) | ((with_reducible apply ldAt0 H 0); exact rfl; exact rfl) | ((with_reducible apply ldAt H 9); exact rfl; exact rfl) | ((with_reducible apply ldAt0 H 9); exact rfl; exact rfl) | ((with_reducible apply stAt H 0); exact rfl; exact rfl; intro h H) | ((with_reducible apply stAt0 H 0); exact rfl; exact rfl; intro h H) | ((with_reducible apply stAt H 9); exact rfl; exact rfl; intro h H) | ((with_reducible apply stAt0 H 9); exact rfl; exact rfl; intro h H) | ((with_reducible apply allocAt H); intro h b H) | ((with_reducible refine ⟨?_, ?_⟩); first | ((with_reducible apply ldAt H 0); exact rfl; exact rfl; exact rfl) | ((with_reducible apply ldAt0 H 0); exact rfl; exact rfl; exact rfl) | ((with_reducible apply ldAt H 9); exact rfl; exact rfl; exact rfl) | ((with_reducible apply ldAt0 H 9); exact rfl; exact rfl; exact rfl)))
          refine ixAt H 6 rfl t ht (by show t < X.P.length; omega) fun e he => ?_
          rw [w64 (n := cv X.C t + f.len) (by omega) (by omega)]
          refine stI H 6 rfl he (by show t < X.P.length; omega) fun h4 H => ?_
          repeat (first | with_reducible refine nn ?_ | with_reducible refine let_ ?_ | with_reducible refine brSome ?_ | with_reducible refine brF ?_ | with_reducible refine brT ?_ | ((with_reducible apply ldAt H 0); exact rfl; exact rfl) | ((with_reducible apply ldAt0 H 0); exact rfl; exact rfl) | ((with_reducible apply ldAt H 9); exact rfl; exact rfl) | ((with_reducible apply ldAt0 H 9); exact rfl; exact rfl) | ((with_reducible apply stAt H 0); exact rfl; exact rfl; intro h H) | ((with_reducible apply stAt0 H 0); exact rfl; exact rfl; intro h H) | ((with_reducible apply stAt H 9); exact rfl; exact rfl; intro h H) | ((with_reducible apply stAt0 H 9); exact rfl; exact rfl; intro h H) | ((with_reducible refine ⟨?_, ?_⟩); first | ((with_reducible apply ldAt H 0); exact rfl; exact rfl; exact rfl) | ((with_reducible apply ldAt0 H 0); exact rfl; exact rfl; exact rfl) | ((with_reducible apply ldAt H 9); exact rfl; exact rfl; exact rfl) | ((with_reducible apply ldAt0 H 9); exact rfl; exact rfl; exact rfl)))
          refine allocAt (cs := ePkt.cells ⟨p.to, p.from_, p.round, true⟩) H fun h b H => ?_
          repeat (first | with_reducible refine nn ?_ | with_reducible refine let_ ?_ | with_reducible refine brSome ?_ | with_reducible refine brF ?_ | with_reducible refine brT ?_ | ((with_reducible apply ldAt H 1); exact rfl; exact rfl) | ((with_reducible apply ldAt0 H 1); exact rfl; exact rfl) | ((with_reducible apply stAt H 1); exact rfl; exact rfl; intro h H) | ((with_reducible apply stAt0 H 1); exact rfl; exact rfl; intro h H) | ((with_reducible apply allocAt H); intro h b H) | ((with_reducible refine ⟨?_, ?_⟩); first | ((with_reducible apply ldAt H 1); exact rfl; exact rfl; exact rfl) | ((with_reducible apply ldAt0 H 1); exact rfl; exact rfl; exact rfl)))
          refine app1B (E := ePkt) TRP H 9 rfl 0 rfl ⟨p.to, p.from_, p.round, true⟩ rfl (by show ((dropM f k).fl.length + 1) * 32 ≤ _; omega) (by show (dropM f k).fl.length + 1 ≤ _; omega) fun s' h H => ?_
          repeat (first | with_reducible refine nn ?_ | with_reducible refine let_ ?_ | with_reducible refine brSome ?_ | with_reducible refine brF ?_ | with_reducible refine brT ?_ | ((with_reducible apply ldAt H 1); exact rfl; exact rfl) | ((with_reducible apply ldAt0 H 1); exact rfl; exact rfl) | ((with_reducible apply stAt H 1); exact rfl; exact rfl; intro h H) | ((with_reducible apply stAt0 H 1); exact rfl; exact rfl; intro h H) | ((with_reducible apply allocAt H); intro h b H) | ((with_reducible refine ⟨?_, ?_⟩); first | ((with_reducible apply ldAt H 1); exact rfl; exact rfl; exact rfl) | ((with_reducible apply ldAt0 H 1); exact rfl; exact rfl; exact rfl)))
          refine fin (Y := { X with sf := s', FL := (dropM f k).fl ++ [⟨p.to, p.from_, p.round, true⟩], W := X.W.set t p.from_, P := X.P.set t (cv X.C t + f.len) }) (f' := ⟨f.len, f.skew, f.l.set t { f.l[t] with whom := p.from_, until_ := f.l[t].clock + f.len }, (dropM f k).fl ++ [⟨p.to, p.from_, p.round, true⟩]⟩) rfl rfl ((Q.asked hpm ha hm htl).mono (by omega)) rfl ?_ H.tail
          rw [hdm]
          unfold askedM
          rw [if_neg hy]
          rfl
        · refine fin (Y := { X with sf := sf, FL := (dropM f k).fl }) (f' := dropM f k) rfl rfl ((Q.part hm).mono (by omega)) rfl ?_ H
          rw [hdm]
          unfold askedM
          rw [if_pos (Classical.not_not.1 hy)]
      · repeat (first | with_reducible refine nn ?_ | with_reducible refine let_ ?_ | with_reducible refine brSome ?_ | with_reducible refine brF ?_ | with_reducible refine brT ?_ | ((with_reducible apply ldAt H 0); exact rfl; exact rfl) | ((with_reducible apply ldAt0 H 0); exact rfl; exact rfl) | ((with_reducible apply ldAt H 9); exact rfl; exact rfl) | ((with_reducible apply ldAt0 H 9); exact rfl; exact rfl) | ((with_reducible apply stAt H 0); exact rfl; exact rfl; intro h H) | ((with_reducible apply stAt0 H 0); exact rfl; exact rfl; intro h H) | ((with_reducible apply stAt H 9); exact rfl; exact rfl; intro h H) | ((with_reducible apply stAt0 H 9); exact rfl; exact rfl; intro h H) | ((with_reducible apply allocAt H); intro h b H) | ((with_reducible refine ⟨?_, ?_⟩); first | ((with_reducible apply ldAt H 0); exact rfl; exact rfl; exact rfl) | ((with_reducible apply ldAt0 H 0); exact rfl; exact rfl; exact rfl) | ((with_reducible apply ldAt H 9); exact rfl; exact rfl; exact rfl) | ((with_reducible apply ldAt0 H 9); exact rfl; exact rfl; exact rfl)))
        refine ixAt H 5 rfl t ht (by show t < X.W.length; omega) fun e he => ?_
        refine ldI H 5 rfl he (by show t < X.W.length; omega) hwt ?_
        repeat (first | with_reducible refine nn ?_ | with_reducible refine let_ ?_ | with_reducible refine brSome ?_ | with_reducible refine brF ?_ | with_reducible refine brT ?_ | ((with_reducible apply ldAt H 0); exact rfl; exact rfl) | ((with_reducible apply ldAt0 H 0); exact rfl; exact rfl) | ((with_reducible apply ldAt H 9); exact rfl; exact rfl) | ((with_reducible apply ldAt0 H 9); exact rfl; exact rfl) | ((with_reducible apply stAt H 0); exact rfl; exact rfl; intro h H) | ((with_reducible apply stAt0 H 0); exact rfl; exact rfl; intro h H) | ((with_reducible apply stAt H 9); exact rfl; exact rfl; intro h H) | ((with_reducible apply stAt0 H 9); exact rfl; exact rfl; intro h H) | ((with_reducible apply allocAt H); intro h b H) | ((with_reducible refine ⟨?_, ?_⟩); first | ((with_reducible apply ldAt H 0); exact rfl; exact rfl; exact rfl) | ((with_reducible apply ldAt0 H 0); exact rfl; exact rfl; exact rfl) | ((with_reducible apply ldAt H 9); exact rfl; exact rfl; exact rfl) | ((with_reducible apply ldAt0 H 9); exact rfl; exact rfl; exact rfl)))
        refine br beq_iff_eq (fun hw => ?_) fun hw => ?_
        · refine ⟨?_, rfl⟩
          rw [Bool.eq_iff_iff, decide_eq_true_iff]
          exact ⟨fun _ x => x.1 hw, fun _ => rfl⟩
        · repeat (first | with_reducible refine nn ?_ | with_reducible refine let_ ?_ | with_reducible refine brSome ?_ | with_reducible refine brF ?_ | with_reducible refine brT ?_ | ((with_reducible apply ldAt H 0); exact rfl; exact rfl) | ((with_reducible apply ldAt0 H 0); exact rfl; exact rfl) | ((with_reducible apply ldAt H 9); exact rfl; exact rfl) | ((with_reducible apply ldAt0 H 9); exact rfl; exact rfl) | ((with_reducible apply stAt H 0); exact rfl; exact rfl; intro h H) | ((with_reducible apply stAt0 H 0); exact rfl; exact rfl; intro h H) | ((with_reducible apply stAt H 9); exact rfl; exact rfl; intro h H) | ((with_reducible apply stAt0 H 9); exact rfl; exact rfl; intro h H) | ((with_reducible apply allocAt H); intro h b H) | ((with_reducible refine ⟨?_, ?_⟩); first | ((with_reducible apply ldAt H 0); exact rfl; exact rfl; exact rfl) | ((with_reducible apply ldAt0 H 0); exact rfl; exact rfl; exact rfl) | ((with_reducible apply ldAt H 9); exact rfl; exact rfl; exact rfl) | ((with_reducible apply ldAt0 H 9); exact rfl; exact rfl; exact rfl)))
          refine ixAt H 1 rfl t ht (by show t < X.C.length; omega) fun e he => ?_
          refine ldI H 1 rfl he (by show t < X.C.length; omega) hct ?_
          repeat (first | with_reducible refine nn ?_ | with_reducible refine let_ ?_ | with_reducible refine brSome ?_ | with_reducible refine brF ?_ | with_reducible refine brT ?_ | ((with_reducible apply ldAt H 0); exact rfl; exact rfl) | ((with_reducible apply ldAt0 H 0); exact rfl; exact rfl) | ((with_reducible apply ldAt H 9); exact rfl; exact rfl) | ((with_reducible apply ldAt0 H 9); exact rfl; exact rfl) | ((with_reducible apply stAt H 0); exact rfl; exact rfl; intro h H) | ((with_reducible apply stAt0 H 0); exact rfl; exact rfl; intro h H) | ((with_reducible apply stAt H 9); exact rfl; exact rfl; intro h H) | ((with_reducible apply stAt0 H 9); exact rfl; exact rfl; intro h H) | ((with_reducible apply allocAt H); intro h b H) | ((with_reducible refine ⟨?_, ?_⟩); first | ((with_reducible apply ldAt H 0); exact rfl; exact rfl; exact rfl) | ((with_reducible apply ldAt0 H 0); exact rfl; exact rfl; exact rfl) | ((with_reducible apply ldAt H 9); exact rfl; exact rfl; exact rfl) | ((with_reducible apply ldAt0 H 9); exact rfl; exact rfl; exact rfl)))
          refine ixAt H 6 rfl t ht (by show t < X.P.length; omega) fun e he => ?_
          refine ldI H 6 rfl he (by show t < X.P.length; omega) hpt ?_
          refine ⟨?_, rfl⟩
          rw [Bool.eq_iff_iff, decide_eq_true_iff, decide_eq_true_iff]
          constructor
          · intro h1 h2
            have := h2.2
            omega
          · intro h1
            false_or_by_contra
            exact h1 ⟨hw, by omega⟩
    · have hdm : deliverM f k p f.l[t] = answeredM (dropM f k) p t f.l[t] := by unfold deliverM; rw [if_pos ha, htn]
      repeat (first | with_reducible refine nn ?_ | with_reducible refine let_ ?_ | with_reducible refine brSome ?_ | with_reducible refine brF ?_ | with_reducible refine brT ?_ | ((with_reducible apply ldAt H 0); exact rfl; exact rfl) | ((with_reducible apply ldAt0 H 0); exact rfl; exact rfl) | ((with_reducible apply ldAt H 9); exact rfl; exact rfl) | ((with_reducible apply ldAt0 H 9); exact rfl; exact rfl) | ((with_reducible apply stAt H 0); exact rfl; exact rfl; intro h H) | ((with_reducible apply stAt0 H 0); exact rfl; exact rfl; intro h H) | ((with_reducible apply stAt H 9); exact rfl; exact rfl; intro h H) | ((with_reducible apply stAt0 H 9); exact rfl; exact rfl; intro h H) | ((with_reducible apply allocAt H); intro h b H) | ((with_reducible refine ⟨?_, ?_⟩); first | ((with_reducible apply ldAt H 0); exact rfl; exact rfl; exact rfl) | ((with_reducible apply ldAt0 H 0); exact rfl; exact rfl; exact rfl) | ((with_reducible apply ldAt H 9); exact rfl; exact rfl; exact rfl) | ((with_reducible apply ldAt0 H 9); exact rfl; exact rfl; exact rfl)))
      refine ixAt H 2 rfl t ht (by show t < X.R.length; omega) fun e he => ?_
      refine ldI H 2 rfl he (by show t < X.R.length; omega) hrt ?_
      refine brB (fun hne => ?_) fun heq => ?_
      · rw [bne_iff_ne] at hne
        refine fin (Y := { X with sf := sf, FL := (dropM f k).fl }) (f' := dropM f k) rfl rfl ((Q.part hm).mono (by omega)) rfl ?_ H
        rw [hdm]
        unfold answeredM
        rw [if_pos hne]
      · have heq : p.round = f.l[t].round := by rw [bne_eq_false_iff_eq] at heq; exact heq
        have hbt : cv X.B t = f.l[t].began := (Q.b t htl ⟨p, hpm, by unfold ownerP; rw [if_pos ha]; exact htn, by rw [hnd]; exact heq⟩).trans (by rw [hnd])
        repeat (first | with_reducible refine nn ?_ | with_reducible refine let_ ?_ | with_reducible refine brSome ?_ | with_reducible refine brF ?_ | with_reducible refine brT ?_ | ((with_reducible apply ldAt H 0); exact rfl; exact rfl) | ((with_reducible apply ldAt0 H 0); exact rfl; exact rfl) | ((with_reducible apply ldAt H 9); exact rfl; exact rfl) | ((with_reducible apply ldAt0 H 9); exact rfl; exact rfl) | ((with_reducible apply stAt H 0); exact rfl; exact rfl; intro h H) | ((with_reducible apply stAt0 H 0); exact rfl; exact rfl; intro h H) | ((with_reducible apply stAt H 9); exact rfl; exact rfl; intro h H) | ((with_reducible apply stAt0 H 9); exact rfl; exact rfl; intro h H) | ((with_reducible refine ⟨?_, ?_⟩); first | ((with_reducible apply ldAt H 0); exact rfl; exact rfl; exact rfl) | ((with_reducible apply ldAt0 H 0); exact rfl; exact rfl; exact rfl) | ((with_reducible apply ldAt H 9); exact rfl; exact rfl; exact rfl) | ((with_reducible apply ldAt0 H 9); exact rfl; exact rfl; exact rfl)))
        refine allocAt (cs := eG.cells ⟨p.from_, p.to, p.round⟩) H fun h b1 H => ?_
        repeat (first | with_reducible refine nn ?_ | with_reducible refine let_ ?_ | with_reducible refine brSome ?_ | with_reducible refine brF ?_ | with_reducible refine brT ?_ | ((with_reducible apply ldAt H 1); exact rfl; exact rfl) | ((with_reducible apply ldAt0 H 1); exact rfl; exact rfl) | ((with_reducible apply stAt H 1); exact rfl; exact rfl; intro h H) | ((with_reducible apply stAt0 H 1); exact rfl; exact rfl; intro h H) | ((with_reducible apply allocAt H); intro h b H) | ((with_reducible refine ⟨?_, ?_⟩); first | ((with_reducible apply ldAt H 1); exact rfl; exact rfl; exact rfl) | ((with_reducible apply ldAt0 H 1); exact rfl; exact rfl; exact rfl)))
        refine app1B (E := eG) TGr H 8 rfl 0 rfl ⟨p.from_, p.to, p.round⟩ rfl (by show (X.G.length + 1) * 24 ≤ _; omega) (by show X.G.length + 1 ≤ _; omega) fun s' h H => ?_
        repeat (first | with_reducible refine nn ?_ | with_reducible refine let_ ?_ | with_reducible refine brSome ?_ | with_reducible refine brF ?_ | with_reducible refine brT ?_ | ((with_reducible apply ldAt H 1); exact rfl; exact rfl) | ((with_reducible apply ldAt0 H 1); exact rfl; exact rfl) | ((with_reducible apply stAt H 1); exact rfl; exact rfl; intro h H) | ((with_reducible apply stAt0 H 1); exact rfl; exact rfl; intro h H) | ((with_reducible apply allocAt H); intro h b H) | ((with_reducible refine ⟨?_, ?_⟩); first | ((with_reducible apply ldAt H 1); exact rfl; exact rfl; exact rfl) | ((with_reducible apply ldAt0 H 1); exact rfl; exact rfl; exact rfl)))
        have H : At h0 h (refL d f.len f.skew { X with sf := sf, FL := (dropM f k).fl, sg := s', G := X.G ++ [⟨p.from_, p.to, p.round⟩] } ++ (.blk b 118 [.int .i64 p.from_, .int .i64 p.to, .int .i64 p.round, .bool p.answer] :: F)) := H.tail
        repeat (first | with_reducible refine nn ?_ | with_reducible refine let_ ?_ | with_reducible refine brSome ?_ | with_reducible refine brF ?_ | with_reducible refine brT ?_ | ((with_reducible apply ldAt H 0); exact rfl; exact rfl) | ((with_reducible apply ldAt0 H 0); exact rfl; exact rfl) | ((with_reducible apply ldAt H 9); exact rfl; exact rfl) | ((with_reducible apply ldAt0 H 9); exact rfl; exact rfl) | ((with_reducible apply stAt H 0); exact rfl; exact rfl; intro h H) | ((with_reducible apply stAt0 H 0); exact rfl; exact rfl; intro h H) | ((with_reducible apply stAt H 9); exact rfl; exact rfl; intro h H) | ((with_reducible apply stAt0 H 9); exact rfl; exact rfl; intro h H) | ((with_reducible apply allocAt H); intro h b H) | ((with_reducible refine ⟨?_, ?_⟩); first | ((with_reducible apply ldAt H 0); exact rfl; exact rfl; exact rfl) | ((with_reducible apply ldAt0 H 0); exact rfl; exact rfl; exact rfl) | ((with_reducible apply ldAt H 9); exact rfl; exact rfl; exact rfl) | ((with_reducible apply ldAt0 H 9); exact rfl; exact rfl; exact rfl)))
        refine ixAt H 3 rfl t ht (by show t < X.B.length; omega) fun e he => ?_
        refine ldI H 3 rfl he (by show t < X.B.length; omega) hbt ?_
        repeat (first | with_reducible refine nn ?_ | with_reducible refine let_ ?_ | with_reducible refine brSome ?_ | with_reducible refine brF ?_ | with_reducible refine brT ?_ | ((with_reducible apply ldAt H 0); exact rfl; exact rfl) | ((with_reducible apply ldAt0 H 0); exact rfl; exact rfl) | ((with_reducible apply ldAt H 9); exact rfl; exact rfl) | ((with_reducible apply ldAt0 H 9); exact rfl; exact rfl) | ((with_reducible apply stAt H 0); exact rfl; exact rfl; intro h H) | ((with_reducible apply stAt0 H 0); exact rfl; exact rfl; intro h H) | ((with_reducible apply stAt H 9); exact rfl; exact rfl; intro h H) | ((with_reducible apply stAt0 H 9); exact rfl; exact rfl; intro h H) | ((with_reducible apply allocAt H); intro h b H) | ((with_reducible refine ⟨?_, ?_⟩); first | ((with_reducible apply ldAt H 0); exact rfl; exact rfl; exact rfl) | ((with_reducible apply ldAt0 H 0); exact rfl; exact rfl; exact rfl) | ((with_reducible apply ldAt H 9); exact rfl; exact rfl; exact rfl) | ((with_reducible apply ldAt0 H 9); exact rfl; exact rfl; exact rfl)))
        rw [w64 (n := f.l[t].began + f.len) (by omega) (by omega), w64 (n := 2 * f.skew) (by omega) (by omega), w64 (n := f.l[t].began + f.len - 2 * f.skew) (by omega) (by omega)]
        refine ref30_granted_ok H (by show X.C.length ≤ 7; omega) (by show (X.G ++ _).length ≤ _; rw [List.length_append]; show X.G.length + 1 ≤ _; omega) fun h3 H => ?_
        have hgp : gsum (X.G ++ [⟨p.from_, p.to, p.round⟩]) p.to p.round X.C.length = popN 7 (f.l[t].granted ||| 2 ^ q) := by
          rw [hlc]
          exact gsum_pop Q I ho htl ht hq (by omega) heq
        have hgle := gsum_le (X.G ++ [⟨p.from_, p.to, p.round⟩]) p.to p.round X.C.length
        rw [hgp] at hgle
        have hqn : p.from_.toNat = q := by omega
        repeat (first | with_reducible refine nn ?_ | with_reducible refine let_ ?_ | with_reducible refine brSome ?_ | with_reducible refine brF ?_ | with_reducible refine brT ?_ | ((with_reducible apply ldAt H 0); exact rfl; exact rfl) | ((with_reducible apply ldAt0 H 0); exact rfl; exact rfl) | ((with_reducible apply ldAt H 9); exact rfl; exact rfl) | ((with_reducible apply ldAt0 H 9); exact rfl; exact rfl) | ((with_reducible apply stAt H 0); exact rfl; exact rfl; intro h H) | ((with_reducible apply stAt0 H 0); exact rfl; exact rfl; intro h H) | ((with_reducible apply stAt H 9); exact rfl; exact rfl; intro h H) | ((with_reducible apply stAt0 H 9); exact rfl; exact rfl; intro h H) | ((with_reducible apply allocAt H); intro h b H) | ((with_reducible refine ⟨?_, ?_⟩); first | ((with_reducible apply ldAt H 0); exact rfl; exact rfl; exact rfl) | ((with_reducible apply ldAt0 H 0); exact rfl; exact rfl; exact rfl) | ((with_reducible apply ldAt H 9); exact rfl; exact rfl; exact rfl) | ((with_reducible apply ldAt0 H 9); exact rfl; exact rfl; exact rfl)))
        dsimp only
        rw [hgp, w64 (by omega) (by omega)]
        have hf : ∀ till, till = (if (f.l.length : Int) < 2 * popN 7 (f.l[t].granted ||| 2 ^ q) ∧ f.l[t].till < f.l[t].began + f.len - 2 * f.skew then f.l[t].began + f.len - 2 * f.skew else f.l[t].till) → deliverM f k p f.l[t] = ⟨f.len, f.skew, f.l.set t { f.l[t] with granted := f.l[t].granted ||| 2 ^ q, till := till }, (dropM f k).fl⟩ := fun till hti => by
          rw [hdm]
          unfold answeredM
          rw [if_neg (fun x => x heq), hqn, hti]
          rfl
        refine brD (fun hmaj => ?_) fun hmaj => ?_
        · repeat (first | with_reducible refine nn ?_ | with_reducible refine let_ ?_ | with_reducible refine brSome ?_ | with_reducible refine brF ?_ | with_reducible refine brT ?_ | ((with_reducible apply ldAt H 0); exact rfl; exact rfl) | ((with_reducible apply ldAt0 H 0); exact rfl; exact rfl) | ((with_reducible apply ldAt H 9); exact rfl; exact rfl) | ((with_reducible apply ldAt0 H 9); exact rfl; exact rfl) | ((with_reducible apply stAt H 0); exact rfl; exact rfl; intro h H) | ((with_reducible apply stAt0 H 0); exact rfl; exact rfl; intro h H) | ((with_reducible apply stAt H 9); exact rfl; exact rfl; intro h H) | ((with_reducible apply stAt0 H 9); exact rfl; exact rfl; intro h H) | ((with_reducible apply allocAt H); intro h b H) | ((with_reducible refine ⟨?_, ?_⟩); first | ((with_reducible apply ldAt H 0); exact rfl; exact rfl; exact rfl) | ((with_reducible apply ldAt0 H 0); exact rfl; exact rfl; exact rfl) | ((with_reducible apply ldAt H 9); exact rfl; exact rfl; exact rfl) | ((with_reducible apply ldAt0 H 9); exact rfl; exact rfl; exact rfl)))
          refine ixAt H 4 rfl t ht (by show t < X.T.length; omega) fun e he => ?_
          refine ldI H 4 rfl he (by show t < X.T.length; omega) htt ?_
          refine brD (fun hgt => ?_) fun hle => ?_
          · repeat (first | with_reducible refine nn ?_ | with_reducible refine let_ ?_ | with_reducible refine brSome ?_ | with_reducible refine brF ?_ | with_reducible refine brT ?_ | ((with_reducible apply ldAt H 0); exact rfl; exact rfl) | ((with_reducible apply ldAt0 H 0); exact rfl; exact rfl) | ((with_reducible apply ldAt H 9); exact rfl; exact rfl) | ((with_reducible apply ldAt0 H 9); exact rfl; exact rfl) | ((with_reducible apply stAt H 0); exact rfl; exact rfl; intro h H) | ((with_reducible apply stAt0 H 0); exact rfl; exact rfl; intro h H) | ((with_reducible apply stAt H 9); exact rfl; exact rfl; intro h H) | ((with_reducible apply stAt0 H 9); exact rfl; exact rfl; intro h H) | ((with_reducible apply allocAt H); intro h b H) | ((with_reducible refine ⟨?_, ?_⟩); first | ((with_reducible apply ldAt H 0); exact rfl; exact rfl; exact rfl) | ((with_reducible apply ldAt0 H 0); exact rfl; exact rfl; exact rfl) | ((with_reducible apply ldAt H 9); exact rfl; exact rfl; exact rfl) | ((with_reducible apply ldAt0 H 9); exact rfl; exact rfl; exact rfl)))
            refine ixAt H 4 rfl t ht (by show t < X.T.length; omega) fun e he => ?_
            refine stI H 4 rfl he (by show t < X.T.length; omega) fun h4 H => ?_
            refine fin (Y := { X with sf := sf, FL := (dropM f k).fl, sg := s', G := X.G ++ [⟨p.from_, p.to, p.round⟩], T := X.T.set t (f.l[t].began + f.len - 2 * f.skew) }) (f' := ⟨f.len, f.skew, f.l.set t { f.l[t] with granted := f.l[t].granted ||| 2 ^ q, till := f.l[t].began + f.len - 2 * f.skew }, (dropM f k).fl⟩) rfl rfl (Q.answered htl ht hq heq hm (by rw [List.length_set]; exact hlt) fun i => cv_set (by omega) _ i) rfl (hf _ ?_) H
            rw [if_pos ⟨by omega, by omega⟩]
          · refine fin (Y := { X with sf := sf, FL := (dropM f k).fl, sg := s', G := X.G ++ [⟨p.from_, p.to, p.round⟩] }) (f' := ⟨f.len, f.skew, f.l.set t { f.l[t] with granted := f.l[t].granted ||| 2 ^ q, till := f.l[t].till }, (dropM f k).fl⟩) rfl rfl (Q.answered htl ht hq heq hm hlt fun i => ?_) rfl (hf _ ?_) H
            · by_cases hi : i = t
              · rw [if_pos hi, hi, htt]
              · rw [if_neg hi]
            · rw [if_neg (by omega)]
        · refine fin (Y := { X with sf := sf, FL := (dropM f k).fl, sg := s', G := X.G ++ [⟨p.from_, p.to, p.round⟩] }) (f' := ⟨f.len, f.skew, f.l.set t { f.l[t] with granted := f.l[t].granted ||| 2 ^ q, till := f.l[t].till }, (dropM f k).fl⟩) rfl rfl (Q.answered htl ht hq heq hm hlt fun i => ?_) rfl (hf _ ?_) H
          · by_cases hi : i = t
            · rw [if_pos hi, hi, htt]
            · rw [if_neg hi]
          · rw [if_neg (by omega)]
  · refine brD (fun hc => ⟨(decide_eq_true (.inl hc)).symm, rfl⟩) fun hc => ?_
    repeat (first | with_reducible refine nn ?_ | with_reducible refine let_ ?_ | with_reducible refine brSome ?_ | with_reducible refine brF ?_ | with_reducible refine brT ?_ | ((with_reducible apply ldAt H 0); exact rfl; exact rfl) | ((with_reducible apply ldAt0 H 0); exact rfl; exact rfl) | ((with_reducible apply stAt H 0); exact rfl; exact rfl; intro h H) | ((with_reducible apply stAt0 H 0); exact rfl; exact rfl; intro h H) | ((with_reducible apply allocAt H); intro h b H) | ((with_reducible refine ⟨?_, ?_⟩); first | ((with_reducible apply ldAt H 0); exact rfl; exact rfl; exact rfl) | ((with_reducible apply ldAt0 H 0); exact rfl; exact rfl; exact rfl)))
    refine ⟨?_, rfl⟩
    rw [Bool.eq_iff_iff, decide_eq_true_iff, decide_eq_true_iff]
    omega
end
end Go.Proofs.Ytegbnmaglkpkjaa
