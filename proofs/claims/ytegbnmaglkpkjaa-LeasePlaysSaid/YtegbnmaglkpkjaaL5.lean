/-
  Layer 30 (lease): a row of acts; what the document fixes; LeaseOne.
-/
import Derived.Test.YtegbnmaglkpkjaaL4
import Derived.Test.YtegbnmaglkpkjaaSLL
import Derived.Test.YtegbnmaglkpkjaaH
namespace Go.Proofs.Ytegbnmaglkpkjaa
open Go

def onNode (f : LF) (n : Int) (g : Nat → LNode → LF × Int × Int) : LF × Int × Int := if h : 0 ≤ n ∧ n.toNat < f.l.length then g n.toNat f.l[n.toNat] else (f, 0, 6)
def onPkt (f : LF) (n : Int) (g : Nat → LPkt → LF × Int × Int) : LF × Int × Int := if h : 0 ≤ n ∧ n.toNat < f.fl.length then g n.toNat f.fl[n.toNat] else (f, 0, 6)
def actM (f : LF) (kd n : Int) : LF × Int × Int :=
  if kd % 9 = 0 ∨ kd % 9 = 1 then onNode f n fun k x => ((tickM f k x).1, 0, (tickM f k x).2)
  else if kd % 9 = 2 then onNode f n fun k x => (askM f k x, x.round + 1, 0)
  else if kd % 9 = 6 then onPkt f n fun k _ => (dropM f k, 0, 0)
  else if kd % 9 = 7 then onPkt f n fun _ p => (doubleM f p, 0, 0)
  else if kd % 9 = 8 then onNode f n fun k x => (failM f k x, 0, 0)
  else onPkt f n fun k p => (deliverM f k p (f.nd p.to.toNat), 0, 0)
theorem onNode_bad {f : LF} {n : Int} {g : Nat → LNode → LF × Int × Int} (h : n < 0 ∨ (f.l.length : Int) ≤ n) : onNode f n g = (f, 0, 6) := by unfold onNode; rw [dif_neg (by omega)]
theorem onNode_ok {f : LF} {k : Nat} {g : Nat → LNode → LF × Int × Int} (h : k < f.l.length) : onNode f k g = g k f.l[k] := by unfold onNode; rw [dif_pos ⟨by omega, by omega⟩]; rfl
theorem onPkt_bad {f : LF} {n : Int} {g : Nat → LPkt → LF × Int × Int} (h : n < 0 ∨ (f.fl.length : Int) ≤ n) : onPkt f n g = (f, 0, 6) := by unfold onPkt; rw [dif_neg (by omega)]
theorem onPkt_ok {f : LF} {k : Nat} {g : Nat → LPkt → LF × Int × Int} (h : k < f.fl.length) : onPkt f k g = g k f.fl[k] := by unfold onPkt; rw [dif_pos ⟨by omega, by omega⟩]; rfl
theorem LStep.same (f : LF) : LStep f f := .part f.fl (fun _ h => h) (Nat.le_succ _)
theorem deliver_step {N : Int} {f : LF} (ho : LOk N f) (k : Nat) (hk : k < f.fl.length) : LStep f (deliverM f k f.fl[k] (f.nd f.fl[k].to.toNat)) := by
  have hp := ho.pk _ (List.getElem_mem hk)
  have ht : f.fl[k].to.toNat < f.l.length := by omega
  have hd := drop_len hk
  have hdp : LStep f (dropM f k) := .part (dropM f k).fl drop_mem (by omega)
  unfold deliverM
  rw [nd_get ht]
  cases ha : f.fl[k].answer with
  | true =>
    rw [if_pos rfl]
    unfold answeredM
    split
    · exact hdp
    · rename_i hr
      refine .answered k hk ha _ ht (by omega) (by omega) _ ?_
      split
      · rename_i hc; exact .inr ⟨hc.1, rfl⟩
      · exact .inl rfl
  | false =>
    rw [if_neg (by decide)]
    unfold askedM
    split
    · exact hdp
    · rename_i hc
      exact .asked k hk ha _ ht (by omega) hc
theorem act_step {N : Int} {f : LF} (ho : LOk N f) (kd n : Int) : LStep f (actM f kd n).1 := by
  have node : ∀ g : Nat → LNode → LF × Int × Int, (∀ k (hk : k < f.l.length), LStep f (g k f.l[k]).1) → LStep f (onNode f n g).1 := fun g hg => by
    unfold onNode
    split
    · rename_i h; exact hg _ h.2
    · exact .same f
  have pkt : ∀ g : Nat → LPkt → LF × Int × Int, (∀ k (hk : k < f.fl.length), LStep f (g k f.fl[k]).1) → LStep f (onPkt f n g).1 := fun g hg => by
    unfold onPkt
    split
    · rename_i h; exact hg _ h.2
    · exact .same f
  unfold actM
  split
  · refine node _ fun k hk => ?_
    show LStep f (tickM f k f.l[k]).1
    unfold tickM
    split
    · rename_i h; exact .tick k hk h
    · exact .same f
  · split
    · exact node _ fun k hk => .ask k hk
    · split
      · exact pkt _ fun k hk => .part (dropM f k).fl drop_mem (by have := drop_len hk; omega)
      · split
        · refine pkt _ fun k hk => .part _ (fun p hp => ?_) (by simp)
          rcases List.mem_append.1 hp with hp | hp
          · exact hp
          · rw [List.mem_singleton.1 hp]; exact List.getElem_mem hk
        · split
          · exact node _ fun k hk => .fail k hk
          · exact pkt _ fun k hk => deliver_step ho k hk
structure LAct where
  kind : Int
  n : Int
def eAct : Enc LAct 2 := ⟨fun a => [.int .u8 a.kind, .int .i64 a.n], fun _ => rfl, by decide, fun x u hu => by
  simp only [List.mem_cons, List.not_mem_nil, or_false] at hu
  rcases hu with rfl | rfl <;> rfl⟩
section
variable {h0 h : Heap} {F : List Res} {d : Nat} {ty : TypeId} {s1 s2 : Sl} {f : LF} {N : Int}
theorem law30_do_ok {kd n : Int} {R : Int → Int → Heap → Prop} (H : At h0 h (fieldL d ty s1 s2 f ++ F)) (ho : LOk N f) (hk : 0 ≤ kd)
    (hR : ∀ h' s1' s2', At h0 h' (fieldL d ty s1' s2' (actM f kd n).1 ++ F) → R (actM f kd n).2.1 (actM f kd n).2.2 h') : C_law30_do (some ⟨d, 0, none⟩) (kd, n, ()) h R := by
  refine A_law30_do ?_
  unfold S_law30_do
  repeat (first | with_reducible refine nn ?_ | with_reducible refine let_ ?_ | with_reducible refine brSome ?_ | with_reducible refine brF ?_ | with_reducible refine brT ?_ | ((with_reducible apply ldAt H 0); exact rfl; exact rfl) | ((with_reducible apply ldAt0 H 0); exact rfl; exact rfl) | ((with_reducible apply stAt H 0); exact rfl; exact rfl; intro h H) | ((with_reducible apply stAt0 H 0); exact rfl; exact rfl; intro h H) | ((with_reducible apply allocAt H); intro h b H) | ((with_reducible refine ⟨?_, ?_⟩); first | ((with_reducible apply ldAt H 0); exact rfl; exact rfl; exact rfl) | ((with_reducible apply ldAt0 H 0); exact rfl; exact rfl; exact rfl)))
  refine nz (by decide) ?_
  rw [rem_nonneg hk]
  -- the temporary thing goes behind
  have H := H.mv 1 3
  have tmp : ∀ {h' : Heap} {f' : LF} {s1' s2' : Sl} {r : Res}, At h0 h' (fieldL d ty s1' s2' f' ++ (r :: F)) → At h0 h' (fieldL d ty s1' s2' f' ++ F) := fun H => (H.mv 3 1).tail
  refine join1 (s1 := .one .bool) (fun (b : Bool) h1 => h1 = h ∧ b = decide (kd % 9 = 0 ∨ kd % 9 = 1)) (fun _ (b : Bool) h1 hJ => ?_) ?_
  · obtain ⟨rfl, rfl⟩ := hJ
    unfold actM at hR
    refine brD (fun hc => ?_) fun hc => ?_
    · rw [if_pos hc] at hR
      repeat (first | with_reducible refine nn ?_ | with_reducible refine let_ ?_ | with_reducible refine brSome ?_ | with_reducible refine brF ?_ | with_reducible refine brT ?_ | ((with_reducible apply ldAt H 0); exact rfl; exact rfl) | ((with_reducible apply ldAt0 H 0); exact rfl; exact rfl) | ((with_reducible apply ldAt H 1); exact rfl; exact rfl) | ((with_reducible apply ldAt0 H 1); exact rfl; exact rfl) | ((with_reducible apply ldAt H 2); exact rfl; exact rfl) | ((with_reducible apply ldAt0 H 2); exact rfl; exact rfl) | ((with_reducible apply ldAt H 3); exact rfl; exact rfl) | ((with_reducible apply ldAt0 H 3); exact rfl; exact rfl) | ((with_reducible apply stAt H 0); exact rfl; exact rfl; intro h H) | ((with_reducible apply stAt0 H 0); exact rfl; exact rfl; intro h H) | ((with_reducible apply stAt H 1); exact rfl; exact rfl; intro h H) | ((with_reducible apply stAt0 H 1); exact rfl; exact rfl; intro h H) | ((with_reducible apply stAt H 2); exact rfl; exact rfl; intro h H) | ((with_reducible apply stAt0 H 2); exact rfl; exact rfl; intro h H) | ((with_reducible apply stAt H 3); exact rfl; exact rfl; intro h H) | ((with_reducible apply stAt0 H 3); exact rfl; exact rfl; intro h H) | ((with_reducible apply allocAt H); intro h b H) | ((with_reducible refine ⟨?_, ?_⟩); first | ((with_reducible apply ldAt H 0); exact rfl; exact rfl; exact rfl) | ((with_reducible apply ldAt0 H 0); exact rfl; exact rfl; exact rfl) | ((with_reducible apply ldAt H 1); exact rfl; exact rfl; exact rfl) | ((with_reducible apply ldAt0 H 1); exact rfl; exact rfl; exact rfl) | ((with_reducible apply ldAt H 2); exact rfl; exact rfl; exact rfl) | ((with_reducible apply ldAt0 H 2); exact rfl; exact rfl; exact rfl) | ((with_reducible apply ldAt H 3); exact rfl; exact rfl; exact rfl) | ((with_reducible apply ldAt0 H 3); exact rfl; exact rfl; exact rfl)))
      refine lease_Tick_ok (F := _ :: F) H ho (fun hb => ?_) fun k hi hk h2 H2 => ?_
      · rw [onNode_bad hb] at hR; exact hR _ s1 s2 (tmp H)
      · subst hi; rw [onNode_ok hk] at hR; exact hR _ s1 s2 (tmp H2)
    · rw [if_neg hc] at hR
      refine br beq_iff_eq (fun hc => ?_) fun hc => ?_
      · rw [if_pos hc] at hR
        repeat (first | with_reducible refine nn ?_ | with_reducible refine let_ ?_ | with_reducible refine brSome ?_ | with_reducible refine brF ?_ | with_reducible refine brT ?_ | ((with_reducible apply ldAt H 0); exact rfl; exact rfl) | ((with_reducible apply ldAt0 H 0); exact rfl; exact rfl) | ((with_reducible apply ldAt H 1); exact rfl; exact rfl) | ((with_reducible apply ldAt0 H 1); exact rfl; exact rfl) | ((with_reducible apply ldAt H 2); exact rfl; exact rfl) | ((with_reducible apply ldAt0 H 2); exact rfl; exact rfl) | ((with_reducible apply ldAt H 3); exact rfl; exact rfl) | ((with_reducible apply ldAt0 H 3); exact rfl; exact rfl) | ((with_reducible apply stAt H 0); exact rfl; exact rfl; intro h H) | ((with_reducible apply stAt0 H 0); exact rfl; exact rfl; intro h H) | ((with_reducible apply stAt H 1); exact rfl; exact rfl; intro h H) | ((with_reducible apply stAt0 H 1); exact rfl; exact rfl; intro h H) | ((with_reducible apply stAt H 2); exact rfl; exact rfl; intro h H) | ((with_reducible apply stAt0 H 2); exact rfl; exact rfl; intro h H) | ((with_reducible apply stAt H 3); exact rfl; exact rfl; intro h H) | ((with_reducible apply stAt0 H 3); exact rfl; exact rfl; intro h H) | ((with_reducible apply allocAt H); intro h b H) | ((with_reducible refine ⟨?_, ?_⟩); first | ((with_reducible apply ldAt H 0); exact rfl; exact rfl; exact rfl) | ((with_reducible apply ldAt0 H 0); exact rfl; exact rfl; exact rfl) | ((with_reducible apply ldAt H 1); exact rfl; exact rfl; exact rfl) | ((with_reducible apply ldAt0 H 1); exact rfl; exact rfl; exact rfl) | ((with_reducible apply ldAt H 2); exact rfl; exact rfl; exact rfl) | ((with_reducible apply ldAt0 H 2); exact rfl; exact rfl; exact rfl) | ((with_reducible apply ldAt H 3); exact rfl; exact rfl; exact rfl) | ((with_reducible apply ldAt0 H 3); exact rfl; exact rfl; exact rfl)))
        refine lease_Ask_ok (F := _ :: F) H ho (fun hb => ?_) fun k hi hk h2 s2' H2 => ?_
        · rw [onNode_bad hb] at hR; exact hR _ s1 s2 (tmp H)
        · subst hi; rw [onNode_ok hk] at hR; exact hR _ s1 s2' (tmp H2)
      · rw [if_neg hc] at hR
        refine br beq_iff_eq (fun hc => ?_) fun hc => ?_
        · rw [if_pos hc] at hR
          repeat (first | with_reducible refine nn ?_ | with_reducible refine let_ ?_ | with_reducible refine brSome ?_ | with_reducible refine brF ?_ | with_reducible refine brT ?_ | ((with_reducible apply ldAt H 0); exact rfl; exact rfl) | ((with_reducible apply ldAt0 H 0); exact rfl; exact rfl) | ((with_reducible apply ldAt H 1); exact rfl; exact rfl) | ((with_reducible apply ldAt0 H 1); exact rfl; exact rfl) | ((with_reducible apply ldAt H 2); exact rfl; exact rfl) | ((with_reducible apply ldAt0 H 2); exact rfl; exact rfl) | ((with_reducible apply ldAt H 3); exact rfl; exact rfl) | ((with_reducible apply ldAt0 H 3); exact rfl; exact rfl) | ((with_reducible apply stAt H 0); exact rfl; exact rfl; intro h H) | ((with_reducible apply stAt0 H 0); exact rfl; exact rfl; intro h H) | ((with_reducible apply stAt H 1); exact rfl; exact rfl; intro h H) | ((with_reducible apply stAt0 H 1); exact rfl; exact rfl; intro h H) | ((with_reducible apply stAt H 2); exact rfl; exact rfl; intro h H) | ((with_reducible apply stAt0 H 2); exact rfl; exact rfl; intro h H) | ((with_reducible apply stAt H 3); exact rfl; exact rfl; intro h H) | ((with_reducible apply stAt0 H 3); exact rfl; exact rfl; intro h H) | ((with_reducible apply allocAt H); intro h b H) | ((with_reducible refine ⟨?_, ?_⟩); first | ((with_reducible apply ldAt H 0); exact rfl; exact rfl; exact rfl) | ((with_reducible apply ldAt0 H 0); exact rfl; exact rfl; exact rfl) | ((with_reducible apply ldAt H 1); exact rfl; exact rfl; exact rfl) | ((with_reducible apply ldAt0 H 1); exact rfl; exact rfl; exact rfl) | ((with_reducible apply ldAt H 2); exact rfl; exact rfl; exact rfl) | ((with_reducible apply ldAt0 H 2); exact rfl; exact rfl; exact rfl) | ((with_reducible apply ldAt H 3); exact rfl; exact rfl; exact rfl) | ((with_reducible apply ldAt0 H 3); exact rfl; exact rfl; exact rfl)))
          refine lease_Drop_ok (F := _ :: F) H ho (fun hb => ?_) fun k hi hk h2 s2' H2 => ?_
          · rw [onPkt_bad hb] at hR; exact hR _ s1 s2 (tmp H)
          · subst hi; rw [onPkt_ok hk] at hR; exact hR _ s1 s2' (tmp H2)
        · rw [if_neg hc] at hR
          refine br beq_iff_eq (fun hc => ?_) fun hc => ?_
          · rw [if_pos hc] at hR
            repeat (first | with_reducible refine nn ?_ | with_reducible refine let_ ?_ | with_reducible refine brSome ?_ | with_reducible refine brF ?_ | with_reducible refine brT ?_ | ((with_reducible apply ldAt H 0); exact rfl; exact rfl) | ((with_reducible apply ldAt0 H 0); exact rfl; exact rfl) | ((with_reducible apply ldAt H 1); exact rfl; exact rfl) | ((with_reducible apply ldAt0 H 1); exact rfl; exact rfl) | ((with_reducible apply ldAt H 2); exact rfl; exact rfl) | ((with_reducible apply ldAt0 H 2); exact rfl; exact rfl) | ((with_reducible apply ldAt H 3); exact rfl; exact rfl) | ((with_reducible apply ldAt0 H 3); exact rfl; exact rfl) | ((with_reducible apply stAt H 0); exact rfl; exact rfl; intro h H) | ((with_reducible apply stAt0 H 0); exact rfl; exact rfl; intro h H) | ((with_reducible apply stAt H 1); exact rfl; exact rfl; intro h H) | ((with_reducible apply stAt0 H 1); exact rfl; exact rfl; intro h H) | ((with_reducible apply stAt H 2); exact rfl; exact rfl; intro h H) | ((with_reducible apply stAt0 H 2); exact rfl; exact rfl; intro h H) | ((with_reducible apply stAt H 3); exact rfl; exact rfl; intro h H) | ((with_reducible apply stAt0 H 3); exact rfl; exact rfl; intro h H) | ((with_reducible apply allocAt H); intro h b H) | ((with_reducible refine ⟨?_, ?_⟩); first | ((with_reducible apply ldAt H 0); exact rfl; exact rfl; exact rfl) | ((with_reducible apply ldAt0 H 0); exact rfl; exact rfl; exact rfl) | ((with_reducible apply ldAt H 1); exact rfl; exact rfl; exact rfl) | ((with_reducible apply ldAt0 H 1); exact rfl; exact rfl; exact rfl) | ((with_reducible apply ldAt H 2); exact rfl; exact rfl; exact rfl) | ((with_reducible apply ldAt0 H 2); exact rfl; exact rfl; exact rfl) | ((with_reducible apply ldAt H 3); exact rfl; exact rfl; exact rfl) | ((with_reducible apply ldAt0 H 3); exact rfl; exact rfl; exact rfl)))
            refine lease_Double_ok (F := _ :: F) H ho (fun hb => ?_) fun k hi hk h2 s2' H2 => ?_
            · rw [onPkt_bad hb] at hR; exact hR _ s1 s2 (tmp H)
            · subst hi; rw [onPkt_ok hk] at hR; exact hR _ s1 s2' (tmp H2)
          · rw [if_neg hc] at hR
            refine br beq_iff_eq (fun hc => ?_) fun hc => ?_
            · rw [if_pos hc] at hR
              repeat (first | with_reducible refine nn ?_ | with_reducible refine let_ ?_ | with_reducible refine brSome ?_ | with_reducible refine brF ?_ | with_reducible refine brT ?_ | ((with_reducible apply ldAt H 0); exact rfl; exact rfl) | ((with_reducible apply ldAt0 H 0); exact rfl; exact rfl) | ((with_reducible apply ldAt H 1); exact rfl; exact rfl) | ((with_reducible apply ldAt0 H 1); exact rfl; exact rfl) | ((with_reducible apply ldAt H 2); exact rfl; exact rfl) | ((with_reducible apply ldAt0 H 2); exact rfl; exact rfl) | ((with_reducible apply ldAt H 3); exact rfl; exact rfl) | ((with_reducible apply ldAt0 H 3); exact rfl; exact rfl) | ((with_reducible apply stAt H 0); exact rfl; exact rfl; intro h H) | ((with_reducible apply stAt0 H 0); exact rfl; exact rfl; intro h H) | ((with_reducible apply stAt H 1); exact rfl; exact rfl; intro h H) | ((with_reducible apply stAt0 H 1); exact rfl; exact rfl; intro h H) | ((with_reducible apply stAt H 2); exact rfl; exact rfl; intro h H) | ((with_reducible apply stAt0 H 2); exact rfl; exact rfl; intro h H) | ((with_reducible apply stAt H 3); exact rfl; exact rfl; intro h H) | ((with_reducible apply stAt0 H 3); exact rfl; exact rfl; intro h H) | ((with_reducible apply allocAt H); intro h b H) | ((with_reducible refine ⟨?_, ?_⟩); first | ((with_reducible apply ldAt H 0); exact rfl; exact rfl; exact rfl) | ((with_reducible apply ldAt0 H 0); exact rfl; exact rfl; exact rfl) | ((with_reducible apply ldAt H 1); exact rfl; exact rfl; exact rfl) | ((with_reducible apply ldAt0 H 1); exact rfl; exact rfl; exact rfl) | ((with_reducible apply ldAt H 2); exact rfl; exact rfl; exact rfl) | ((with_reducible apply ldAt0 H 2); exact rfl; exact rfl; exact rfl) | ((with_reducible apply ldAt H 3); exact rfl; exact rfl; exact rfl) | ((with_reducible apply ldAt0 H 3); exact rfl; exact rfl; exact rfl)))
              refine lease_Fail_ok (F := _ :: F) H ho (fun hb => ?_) fun k hi hk h2 H2 => ?_
              · rw [onNode_bad hb] at hR; exact hR _ s1 s2 (tmp H)
              · subst hi; rw [onNode_ok hk] at hR; exact hR _ s1 s2 (tmp H2)
            · rw [if_neg hc] at hR
              repeat (first | with_reducible refine nn ?_ | with_reducible refine let_ ?_ | with_reducible refine brSome ?_ | with_reducible refine brF ?_ | with_reducible refine brT ?_ | ((with_reducible apply ldAt H 0); exact rfl; exact rfl) | ((with_reducible apply ldAt0 H 0); exact rfl; exact rfl) | ((with_reducible apply ldAt H 1); exact rfl; exact rfl) | ((with_reducible apply ldAt0 H 1); exact rfl; exact rfl) | ((with_reducible apply ldAt H 2); exact rfl; exact rfl) | ((with_reducible apply ldAt0 H 2); exact rfl; exact rfl) | ((with_reducible apply ldAt H 3); exact rfl; exact rfl) | ((with_reducible apply ldAt0 H 3); exact rfl; exact rfl) | ((with_reducible apply stAt H 0); exact rfl; exact rfl; intro h H) | ((with_reducible apply stAt0 H 0); exact rfl; exact rfl; intro h H) | ((with_reducible apply stAt H 1); exact rfl; exact rfl; intro h H) | ((with_reducible apply stAt0 H 1); exact rfl; exact rfl; intro h H) | ((with_reducible apply stAt H 2); exact rfl; exact rfl; intro h H) | ((with_reducible apply stAt0 H 2); exact rfl; exact rfl; intro h H) | ((with_reducible apply stAt H 3); exact rfl; exact rfl; intro h H) | ((with_reducible apply stAt0 H 3); exact rfl; exact rfl; intro h H) | ((with_reducible apply allocAt H); intro h b H) | ((with_reducible refine ⟨?_, ?_⟩); first | ((with_reducible apply ldAt H 0); exact rfl; exact rfl; exact rfl) | ((with_reducible apply ldAt0 H 0); exact rfl; exact rfl; exact rfl) | ((with_reducible apply ldAt H 1); exact rfl; exact rfl; exact rfl) | ((with_reducible apply ldAt0 H 1); exact rfl; exact rfl; exact rfl) | ((with_reducible apply ldAt H 2); exact rfl; exact rfl; exact rfl) | ((with_reducible apply ldAt0 H 2); exact rfl; exact rfl; exact rfl) | ((with_reducible apply ldAt H 3); exact rfl; exact rfl; exact rfl) | ((with_reducible apply ldAt0 H 3); exact rfl; exact rfl; exact rfl)))
              refine lease_Deliver_ok (F := _ :: F) H ho (fun hb => ?_) fun k hi hk ht h2 s2' H2 => ?_
              · rw [onPkt_bad hb] at hR; exact hR _ s1 s2 (tmp H)
              · subst hi; rw [onPkt_ok hk, nd_get ht] at hR; exact hR _ s1 s2' (tmp H2)
  · refine brB (fun hc => ⟨rfl, ?_⟩) fun hc => ⟨rfl, ?_⟩
    · rw [hc]; rw [beq_iff_eq] at hc; rw [decide_eq_true (.inl hc)]
    · rw [beq_eq_false_iff_ne] at hc
      by_cases h1 : kd % 9 = 1
      · rw [decide_eq_true (.inr h1)]; simp [h1]
      · rw [decide_eq_false (by omega)]; simp [h1]
end
/-! ## fixed -/
def f1M : LF := ⟨5, 1, [⟨0, 1, 0, 0, 0, -1, 0⟩], [⟨0, 0, 1, false⟩]⟩
def f2M : LF := ⟨5, 1, [⟨0, 1, 0, 0, 0, 0, 5⟩], [⟨0, 0, 1, true⟩]⟩
def f3M (c : Int) : LF := ⟨5, 1, [⟨c, 1, 0, 1, 3, 0, 5⟩], []⟩
theorem f3_ok {c : Int} (h0 : 0 ≤ c) (h1 : c ≤ 10) : LOk 10 (f3M c) := by
  refine ⟨by show (1 : Nat) ≤ 7; decide, by show (1 : Int) ≤ 5 ∧ (5 : Int) ≤ 64; decide, by show (1 : Int) ≤ 1 ∧ (1 : Int) ≤ 64; decide, fun x hx => ?_, (fun p hp => by cases hp), by show ((0 : Nat) : Int) ≤ 7 * 10; decide, by decide⟩
  have : x = ⟨c, 1, 0, 1, 3, 0, 5⟩ := List.mem_singleton.1 hx
  subst this
  simp only []
  omega
theorem new_ok {k : Nat} {len skew : Int} (h : newOk k len skew) : LOk 0 (newM k len skew) := by
  unfold newOk at h
  refine ⟨by show (List.replicate k _).length ≤ 7; rw [List.length_replicate]; omega, by show 1 ≤ len ∧ len ≤ 64; omega, by show 1 ≤ skew ∧ skew ≤ 64; omega, fun x hx => ?_, (fun p hp => by cases hp), by show ((0 : Nat) : Int) ≤ _; decide, by decide⟩
  have := List.eq_of_mem_replicate hx
  subst this
  decide
theorem lease_Ask_nil {i : Int} {h : Heap} {R : Int → Int → Heap → Prop} (hR : R 0 1 h) : C_lease_Field_Ask none i h R := by
  refine A_lease_Field_Ask ?_
  unfold S_lease_Field_Ask
  exact A_lease_Field_is (brY rfl hR)
theorem lease_Flight_nil {h : Heap} {R : Int → Heap → Prop} (hR : R 0 h) : C_lease_Field_Flight none h R := A_lease_Field_Flight hR
theorem law30_fixed_ok {h : Heap} {R : Bool → Heap → Prop} (hR : ∀ h', Ext h.size h h' → R true h') : C_law30_fixed h R := by
  refine A_law30_fixed ?_
  unfold S_law30_fixed
  refine lease_New_ok (At.start h) (fun hn => absurd ⟨by decide, by decide, by decide, by decide, by decide, by decide, by decide⟩ hn) fun k hk hn h1 d ty s1 H => ?_
  obtain rfl : k = 1 := by omega
  have o0 := new_ok hn
  refine lease_Ask_ok H o0 (fun hb => by rcases hb with hb | hb <;> exact absurd hb (by decide)) fun k hk _ h2 s2 H => ?_
  obtain rfl : k = 0 := by omega
  have o1 : LOk 1 f1M := o0.step (.ask 0 (by decide)) (by decide)
  have e1 : askM (newM ((1 : Nat)) 5 1) 0 (newM 1 5 1).l[0] = f1M := rfl
  replace H : At h h2 (fieldL d ty s1 s2 f1M ++ []) := by rw [← e1]; exact H
  refine lease_Deliver_ok H o1 (fun hb => by rcases hb with hb | hb <;> exact absurd hb (by decide)) fun k hk _ _ h3 s3 H => ?_
  obtain rfl : k = 0 := by omega
  have e2 : deliverM f1M 0 f1M.fl[0] f1M.l[f1M.fl[0].to.toNat] = f2M := rfl
  have o2 : LOk 2 f2M := o1.step (deliver_step o1 0 (by decide)) (by decide)
  replace H : At h h3 (fieldL d ty s1 s3 f2M ++ []) := by rw [← e2]; exact H
  refine lease_Deliver_ok H o2 (fun hb => by rcases hb with hb | hb <;> exact absurd hb (by decide)) fun k hk _ _ h4 s4 H => ?_
  obtain rfl : k = 0 := by omega
  have e3 : deliverM f2M 0 f2M.fl[0] f2M.l[f2M.fl[0].to.toNat] = f3M 0 := by kernel_rfl
  replace H : At h h4 (fieldL d ty s1 s4 (f3M 0) ++ []) := by rw [← e3]; exact H
  refine lease_Holds_ok H (fun hb => by rcases hb with hb | hb <;> exact absurd hb (by decide)) fun k hk _ => ?_
  obtain rfl : k = 0 := by omega
  refine loop1 (s1 := .one (.int .i64)) (fun (x : Int) h5 => 0 ≤ x ∧ x ≤ 3 ∧ At h h5 (fieldL d ty s1 s4 (f3M x) ++ [])) (fun (x : Int) _ => (3 - x).toNat) ⟨by decide, by decide, H⟩ fun _ (x : Int) h5 hI => ?_
  obtain ⟨hx0, hx3, H⟩ := hI
  have o3 := f3_ok hx0 (by omega)
  refine brD (fun hc => ?_) fun hc => ?_
  · refine lease_Tick_ok H o3 (fun hb => by rcases hb with hb | hb; exact absurd hb (by decide); exact absurd hb (by show ¬ ((1 : Nat) : Int) ≤ 0; decide)) fun k hk _ h6 H => ?_
    obtain rfl : k = 0 := by omega
    have e4 : (tickM (f3M x) 0 (f3M x).l[0]).1 = f3M (x + 1) := by
      unfold tickM
      rw [if_pos fun j hj hj0 => absurd hj (by show ¬ j < 1; omega)]
      rfl
    replace H : At h h6 (fieldL d ty s1 s4 (f3M (x + 1)) ++ []) := by rw [← e4]; exact H
    rw [w64 (by omega) (by omega)]
    exact ⟨⟨by omega, by omega, H⟩, by omega⟩
  · obtain rfl : x = 3 := by omega
    refine lease_Promised_ok H (fun hb => by rcases hb with hb | hb <;> exact absurd hb (by decide)) fun k hk _ => ?_
    obtain rfl : k = 0 := by omega
    refine lease_Ask_nil (brY rfl (brY rfl (brY rfl (brY rfl (brY rfl ?_)))))
    refine lease_Till_ok H (fun hb => by rcases hb with hb | hb <;> exact absurd hb (by decide)) fun k hk _ => ?_
    obtain rfl : k = 0 := by omega
    refine brY rfl (lease_Holds_ok H (fun hb => by rcases hb with hb | hb <;> exact absurd hb (by decide)) fun k hk _ => ?_)
    obtain rfl : k = 0 := by omega
    refine brY rfl (brY rfl (brY rfl (lease_Clock_ok H (fun hb => by rcases hb with hb | hb <;> exact absurd hb (by decide)) fun k hk _ => ?_)))
    obtain rfl : k = 0 := by omega
    refine brY rfl (lease_Tick_ok H o3 (fun _ => ?_) fun k hk hk2 => absurd hk2 (by show ¬ k < 1; omega))
    refine brY rfl (lease_Drop_ok H o3 (fun _ => ?_) fun k hk hk2 => absurd hk2 (Nat.not_lt_zero _))
    refine brY rfl (lease_New_ok H (fun _ => brY rfl (brY rfl (lease_Flight_nil (hR _ H.ext)))) fun k hk hn => ?_)
    unfold newOk at hn
    omega
end Go.Proofs.Ytegbnmaglkpkjaa
