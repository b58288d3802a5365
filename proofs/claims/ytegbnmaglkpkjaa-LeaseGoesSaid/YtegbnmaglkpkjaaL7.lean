/-
  Layer 30 (lease): LeaseGoes over the heap alone.
-/
import Derived.Test.YtegbnmaglkpkjaaL6
namespace Go.Proofs.Ytegbnmaglkpkjaa
open Go

theorem loop0 {body : (Nat → Value) → Heap → (Heap → Prop) → Prop} {h : Heap} (I : Heap → Prop) (μ : Heap → Nat) (h0 : I h) (hr : ∀ τ h, I h → body τ h (fun h' => I h' ∧ μ h' < μ h)) : Loop [] body () h :=
  ⟨I, μ, h0, fun τ () h hI => hr τ h hI⟩
/-! ## Ticks -/
def low (f : LF) (v : Int) : Nat := f.l.countP fun x => decide (x.clock ≤ v)
theorem low_zero {f : LF} {v : Int} (h : low f v = 0) (i : Nat) (hi : i < f.l.length) : v < f.l[i].clock := by
  have := List.countP_eq_zero.1 h f.l[i] (List.getElem_mem hi)
  simpa using this
theorem low_tick {f : LF} {v : Int} {k : Nat} (hk : k < f.l.length) (hmin : ∀ j, (hj : j < f.l.length) → f.l[k].clock ≤ f.l[j].clock) (hlo : ∀ j, (hj : j < f.l.length) → v ≤ f.l[j].clock) (m : Nat) (hm : low f v ≤ m + 1) :
    low { f with l := f.l.set k { f.l[k] with clock := f.l[k].clock + 1 } } v ≤ m := by
  have e : (f.l.set k { f.l[k] with clock := f.l[k].clock + 1 }).countP (fun x => decide (x.clock ≤ v)) = f.l.countP (fun x => decide (x.clock ≤ v)) - (if decide (f.l[k].clock ≤ v) = true then 1 else 0) + (if decide (f.l[k].clock + 1 ≤ v) = true then 1 else 0) := by
    rw [List.countP_set]
  unfold low at hm ⊢
  rw [e]
  have hk2 := hlo k hk
  by_cases hc : f.l[k].clock ≤ v
  · rw [if_pos (by simpa using hc), if_neg (by simp; omega)]; omega
  · have : f.l.countP (fun x => decide (x.clock ≤ v)) = 0 := List.countP_eq_zero.2 fun x hx => by
      obtain ⟨j, hj, rfl⟩ := List.getElem_of_mem hx
      have := hmin j hj
      simp; omega
    rw [this, if_neg (by simpa using hc), if_neg (by simp; omega)]
    omega
theorem low_le (f : LF) (v : Int) : low f v ≤ f.l.length := List.countP_le_length
/-! ## Messages that come -/
def reqP (i : Nat) (r : Int) (j : Nat) : LPkt := ⟨(i : Int), (j : Int), r, false⟩
def ansP (i : Nat) (r : Int) (j : Nat) : LPkt := ⟨(j : Int), (i : Int), r, true⟩
theorem pop_full : ∀ k : Fin 8, popN 7 (2 ^ k.val - 1) = k.val := by decide
theorem or_full : ∀ k : Fin 7, (2 ^ k.val - 1) ||| 2 ^ k.val = 2 ^ (k.val + 1) - 1 := by decide
structure Gq (k i : Nat) (r b len s : Int) (z : Nat) (f : LF) : Prop where
  ln : f.l.length = k
  le : f.len = len
  sk : f.skew = s
  il : i < k
  rd : (f.nd i).round = r
  ck : (f.nd i).clock = b
  bg : (f.nd i).began = b
  a : z ≤ k → (f.nd i).granted = 0 ∧ f.fl = ((List.range k).drop z).map (reqP i r) ++ (List.range z).map (ansP i r) ∧ ∀ j, z ≤ j → j < k → (f.nd j).until_ ≤ (f.nd j).clock
  b : k ≤ z → ∃ y, z = k + y ∧ y ≤ k ∧ (f.nd i).granted = 2 ^ y - 1 ∧ f.fl = ((List.range k).drop y).map (ansP i r) ∧ (y = k → b + len - 2 * s ≤ (f.nd i).till)
theorem drop_range {k z : Nat} (h : z < k) : (List.range k).drop z = z :: (List.range k).drop (z + 1) := by
  rw [List.drop_eq_getElem_cons (by simpa using h), List.getElem_range]
theorem Gq.step {k i : Nat} {r b len s : Int} {z : Nat} {f : LF} (h : Gq k i r b len s z f) (hz : z < 2 * k) (hk7 : k ≤ 7) : ∃ hp : 0 < f.fl.length, Gq k i r b len s (z + 1) (deliverM f 0 f.fl[0] (f.nd f.fl[0].to.toNat)) := by
  by_cases hzk : z < k
  · obtain ⟨a1, a2, a3⟩ := h.a (by omega)
    have e : f.fl = reqP i r z :: (((List.range k).drop (z + 1)).map (reqP i r) ++ (List.range z).map (ansP i r)) := by rw [a2, drop_range hzk]; rfl
    have hp : 0 < f.fl.length := by rw [e]; simp
    refine ⟨hp, ?_⟩
    have e0 : f.fl[0] = reqP i r z := by simp only [e]; rfl
    rw [e0]
    have hto : (reqP i r z).to.toNat = z := rfl
    rw [hto]
    have hzl : z < f.l.length := by rw [h.ln]; exact hzk
    have hu := a3 z (Nat.le_refl _) hzk
    have ed : deliverM f 0 (reqP i r z) (f.nd z) = ⟨f.len, f.skew, f.l.set z { f.nd z with whom := i, until_ := (f.nd z).clock + f.len }, ((List.range k).drop (z + 1)).map (reqP i r) ++ (List.range (z + 1)).map (ansP i r)⟩ := by
      have e1 : (dropM f 0).fl = ((List.range k).drop (z + 1)).map (reqP i r) ++ (List.range z).map (ansP i r) := by show f.fl.take 0 ++ f.fl.drop 1 = _; rw [e]; rfl
      show askedM (dropM f 0) (reqP i r z) z (f.nd z) = _
      unfold askedM
      rw [if_neg fun x => by have := x.2; omega]
      show (⟨f.len, f.skew, f.l.set z { f.nd z with whom := i, until_ := (f.nd z).clock + f.len }, (dropM f 0).fl ++ [ansP i r z]⟩ : LF) = _
      rw [e1, List.range_succ, List.map_append, List.append_assoc]; rfl
    rw [ed]
    have nd := nd_set hzl { f.nd z with whom := i, until_ := (f.nd z).clock + f.len } (((List.range k).drop (z + 1)).map (reqP i r) ++ (List.range (z + 1)).map (ansP i r))
    have ndi : LF.nd ⟨f.len, f.skew, f.l.set z { f.nd z with whom := i, until_ := (f.nd z).clock + f.len }, ((List.range k).drop (z + 1)).map (reqP i r) ++ (List.range (z + 1)).map (ansP i r)⟩ i = { f.nd i with whom := if i = z then (i : Int) else (f.nd i).whom, until_ := if i = z then (f.nd i).clock + f.len else (f.nd i).until_ } := by
      rw [nd]; split
      · rename_i hiz; subst hiz; rfl
      · rfl
    refine ⟨by show (f.l.set z _).length = k; rw [List.length_set]; exact h.ln, h.le, h.sk, h.il, by rw [ndi]; exact h.rd, by rw [ndi]; exact h.ck, by rw [ndi]; exact h.bg, fun _ => ⟨by rw [ndi]; exact a1, rfl, fun j hj hjk => ?_⟩, fun hkz => ?_⟩
    · rw [nd, if_neg (by omega)]; exact a3 j (by omega) hjk
    · have hzk2 : z + 1 = k := by omega
      refine ⟨0, by omega, Nat.zero_le _, by rw [ndi]; exact a1, ?_, fun h0 => by omega⟩
      show ((List.range k).drop (z + 1)).map (reqP i r) ++ (List.range (z + 1)).map (ansP i r) = _
      rw [hzk2, List.drop_of_length_le (by simp)]; rfl
  · obtain ⟨y, rfl, hy, b1, b2, b3⟩ := h.b (by omega)
    have hyk : y < k := by omega
    have e : f.fl = ansP i r y :: ((List.range k).drop (y + 1)).map (ansP i r) := by rw [b2, drop_range hyk]; rfl
    have hp : 0 < f.fl.length := by rw [e]; simp
    refine ⟨hp, ?_⟩
    have e0 : f.fl[0] = ansP i r y := by simp only [e]; rfl
    rw [e0]
    have hto : (ansP i r y).to.toNat = i := rfl
    rw [hto]
    have hil : i < f.l.length := by rw [h.ln]; exact h.il
    have hor := or_full ⟨y, by omega⟩
    simp only at hor
    generalize htl : (if (f.l.length : Int) < 2 * popN 7 ((f.nd i).granted ||| 2 ^ y) ∧ (f.nd i).till < (f.nd i).began + f.len - 2 * f.skew then (f.nd i).began + f.len - 2 * f.skew else (f.nd i).till) = tl
    have ed : deliverM f 0 (ansP i r y) (f.nd i) = ⟨f.len, f.skew, f.l.set i { f.nd i with granted := 2 ^ (y + 1) - 1, till := tl }, ((List.range k).drop (y + 1)).map (ansP i r)⟩ := by
      have e1 : (dropM f 0).fl = ((List.range k).drop (y + 1)).map (ansP i r) := by show f.fl.take 0 ++ f.fl.drop 1 = _; rw [e]; rfl
      show answeredM (dropM f 0) (ansP i r y) i (f.nd i) = _
      unfold answeredM
      rw [if_neg (by rw [h.rd]; exact fun x => x rfl)]
      show (⟨f.len, f.skew, f.l.set i { f.nd i with granted := (f.nd i).granted ||| 2 ^ y, till := if (f.l.length : Int) < 2 * popN 7 ((f.nd i).granted ||| 2 ^ y) ∧ (f.nd i).till < (f.nd i).began + f.len - 2 * f.skew then (f.nd i).began + f.len - 2 * f.skew else (f.nd i).till }, (dropM f 0).fl⟩ : LF) = _
      rw [htl, e1, b1, hor]
    rw [ed]
    have nd := nd_set hil { f.nd i with granted := 2 ^ (y + 1) - 1, till := tl } (((List.range k).drop (y + 1)).map (ansP i r)) i
    rw [if_pos rfl] at nd
    refine ⟨by show (f.l.set i _).length = k; rw [List.length_set]; exact h.ln, h.le, h.sk, h.il, by rw [nd]; exact h.rd, by rw [nd]; exact h.ck, by rw [nd]; exact h.bg, fun hx => by omega, fun _ => ⟨y + 1, by omega, by omega, by rw [nd], rfl, fun hyk2 => ?_⟩⟩
    rw [nd]
    show b + len - 2 * s ≤ tl
    have hpf := pop_full ⟨y + 1, by omega⟩
    simp only at hpf
    rw [b1, hor, hpf, h.ln, h.bg, h.le, h.sk] at htl
    rw [← htl]
    split <;> omega
theorem ask_gq {k i : Nat} {f : LF} (hl : f.l.length = k) (hi : i < k) (hfl : f.fl = []) (hu : ∀ j, j < k → (f.nd j).until_ ≤ (f.nd j).clock) (hil : i < f.l.length) : Gq k i (f.l[i].round + 1) f.l[i].clock f.len f.skew 0 (askM f i f.l[i]) := by
  have nd := nd_set hil { f.l[i] with round := f.l[i].round + 1, began := f.l[i].clock, granted := 0 } (f.fl ++ (List.range f.l.length).map fun j : Nat => ⟨(i : Int), (j : Int), f.l[i].round + 1, false⟩)
  have ndi := nd i
  rw [if_pos rfl] at ndi
  refine ⟨by show (f.l.set i _).length = k; rw [List.length_set]; exact hl, rfl, rfl, hi, by show (LF.nd (askM f i f.l[i]) i).round = _; unfold askM; rw [ndi], by show (LF.nd (askM f i f.l[i]) i).clock = _; unfold askM; rw [ndi], by show (LF.nd (askM f i f.l[i]) i).began = _; unfold askM; rw [ndi], fun _ => ⟨by unfold askM; rw [ndi], ?_, fun j _ hj => ?_⟩, fun hk => by omega⟩
  · show f.fl ++ (List.range f.l.length).map _ = _
    rw [hfl, hl]
    simp [reqP]
  · unfold askM
    rw [nd]
    have := hu j hj
    split
    · rename_i hji; subst hji; rw [nd_get hil] at this; exact this
    · exact this

/-- What a node's slice of messages holds, told by the heap. -/
def flN (d : Nat) (h : Heap) : Nat := match cellH h ⟨d, 3, none⟩ with
  | some (.slice _ n _) => n
  | _ => 0
theorem flN_eq {h0 h : Heap} {F : List Res} {d : Nat} {ty : TypeId} {s1 s2 : Sl} {f : LF} (H : At h0 h (fieldL d ty s1 s2 f ++ F)) : flN d h = f.fl.length := by
  have hb : Blk h d ty [.int .i64 f.len, .int .i64 f.skew, .slice s1.a s1.n s1.c, .slice s2.a s2.n s2.c] := H.get 0 rfl
  have hn := H.n 2 rfl
  unfold flN
  rw [hb.cell]
  exact hn
/-- All clocks lie between this and the skew above it. -/
theorem base_ex {f : LF} {o : Nat → Int} (h : LInv f o) (hk : 0 < f.l.length) : ∃ v : Int, (∀ j, (hj : j < f.l.length) → v ≤ f.l[j].clock) ∧ ∀ j, (hj : j < f.l.length) → f.l[j].clock ≤ v + f.skew := by
  have key : ∀ m, 0 < m → m ≤ f.l.length → ∃ i, ∃ hi : i < f.l.length, ∀ j, (hj : j < f.l.length) → j < m → f.l[i].clock ≤ f.l[j].clock := by
    intro m
    induction m with
    | zero => intro h; omega
    | succ m ih =>
      intro _ hm
      by_cases h0 : m = 0
      · subst h0
        exact ⟨0, hk, fun j hj hj1 => by obtain rfl : j = 0 := by omega
                                         exact Int.le_refl _⟩
      · obtain ⟨i, hi, hmin⟩ := ih (by omega) (by omega)
        by_cases hc : f.l[i].clock ≤ f.l[m].clock
        · exact ⟨i, hi, fun j hj hjm => by
            by_cases hj2 : j < m
            · exact hmin j hj hj2
            · obtain rfl : j = m := by omega
              exact hc⟩
        · exact ⟨m, by omega, fun j hj hjm => by
            by_cases hj2 : j < m
            · have := hmin j hj hj2; omega
            · obtain rfl : j = m := by omega
              exact Int.le_refl _⟩
  obtain ⟨i, hi, hmin⟩ := key f.l.length hk (Nat.le_refl _)
  refine ⟨f.l[i].clock, fun j hj => hmin j hj hj, fun j hj => ?_⟩
  have := h.skew j i hj hi
  rw [nd_get hj, nd_get hi] at this
  omega
set_option maxRecDepth 100000 in
set_option maxHeartbeats 1600000 in
theorem law30_LeaseGoes_ok {n length skew : Int} {l : Sl} {who : Int} {hB : Heap} {acts : List LAct} (w0 : 0 ≤ n ∧ n ≤ 255) (w1 : 0 ≤ length ∧ length ≤ 255) (w2 : 0 ≤ skew ∧ skew ≤ 255) (w3 : RdS hB 2 l (eAct.fl acts) ∧ ∀ a ∈ acts, 0 ≤ a.kind ∧ a.kind ≤ 255) (w4 : 0 ≤ who ∧ who ≤ 255) :
    C_law30_LeaseGoes n length skew l who hB fun r h' => r = true ∧ Ext hB.size hB h' := by
  refine A_law30_LeaseGoes ?_
  unfold S_law30_LeaseGoes
  obtain ⟨A, hk⟩ := w3
  have hn := rdn A
  refine law30_fixed_ok fun h1 e1 => brN rfl (brD (fun _ => ⟨rfl, e1⟩) fun hc => nz (by decide) (nz (by decide) ?_))
  rw [rem_nonneg w0.1, rem_nonneg w2.1, rem_nonneg w1.1]
  rw [w64 (n := n % 7) (by omega) (by omega), w64 (n := skew % 5) (by omega) (by omega), w64 (n := 1 + n % 7) (by omega) (by omega), w64 (n := 1 + skew % 5) (by omega) (by omega)]
  refine let_ (let_ (nz (by decide) ?_))
  rw [w64 (n := length % 10) (by omega) (by omega), w64 (n := 2 * (1 + skew % 5)) (by omega) (by omega), w64 (n := 2 * (1 + skew % 5) + 1) (by omega) (by omega), w64 (n := 2 * (1 + skew % 5) + 1 + length % 10) (by omega) (by omega)]
  refine let_ ?_
  refine lease_New_ok (At.of_ext e1) (fun hb => absurd (by unfold newOk; omega) hb) fun k hkn hok h2 d ty s1 H => ?_
  have hk0 : 1 ≤ k ∧ k ≤ 7 := by omega
  rw [hkn] at hok ⊢
  have hs0 : 1 ≤ 1 + skew % 5 ∧ 1 + skew % 5 ≤ 5 := by omega
  have hlg0 : 2 * (1 + skew % 5) < 2 * (1 + skew % 5) + 1 + length % 10 ∧ 2 * (1 + skew % 5) + 1 + length % 10 ≤ 20 := by omega
  generalize 1 + skew % 5 = s at *
  generalize 2 * s + 1 + length % 10 = long at *
  refine loop1 (s1 := .one (.int .i64)) (fun (x : Int) h3 => ∃ (j : Nat) (f : LF) (s1 s2 : Sl) (o : Nat → Int), x = j ∧ j ≤ acts.length ∧ At hB h3 (fieldL d ty s1 s2 f ++ []) ∧ LOk j f ∧ LInv f o ∧ f.l.length = k ∧ f.skew = s ∧ f.len = long) (fun (x : Int) _ => (acts.length - x).toNat)
    ⟨0, _, s1, _, _, rfl, Nat.zero_le _, H, new_ok hok, new_inv hok, List.length_replicate, rfl, rfl⟩ fun _ (x : Int) h3 hI => ?_
  obtain ⟨j, f, s1, s2, o, rfl, hj, H, ho, hi, hlen, hsk, hll⟩ := hI
  refine brD (fun hc2 => ?_) fun hc2 => ?_
  · have hj2 : j < acts.length := by omega
    refine ixR (H.arg A) j rfl hj2 fun e he => ?_
    repeat (first | with_reducible refine nn ?_ | with_reducible refine let_ ?_ | with_reducible refine brSome ?_ | with_reducible refine brF ?_ | with_reducible refine brT ?_ | ((with_reducible apply ldAt H 0); exact rfl; exact rfl) | ((with_reducible apply ldAt0 H 0); exact rfl; exact rfl) | ((with_reducible apply ldR (H.arg A)); assumption; (case hk => assumption); exact rfl) | ((with_reducible apply ldR0 (H.arg A)); assumption; (case hk => assumption); exact rfl) | ((with_reducible apply stAt H 0); exact rfl; exact rfl; intro h H) | ((with_reducible apply stAt0 H 0); exact rfl; exact rfl; intro h H) | ((with_reducible apply allocAt H); intro h b H) | ((with_reducible refine ⟨?_, ?_⟩); first | ((with_reducible apply ldAt H 0); exact rfl; exact rfl; exact rfl) | ((with_reducible apply ldAt0 H 0); exact rfl; exact rfl; exact rfl)))
    have H := H.tail
    have hkd := (hk _ (List.getElem_mem hj2)).1
    refine law30_do_ok H ho hkd fun h4 s1 s2 H => ?_
    have hst := act_step ho acts[j].kind acts[j].n
    have ho' := ho.step hst (by omega)
    obtain ⟨o', hi'⟩ := hi.step hst
    obtain ⟨l1, l2, l3⟩ := step_len hst
    rw [w64 (by omega) (by omega)]
    exact ⟨⟨j + 1, _, s1, s2, o', by omega, by omega, H, by rw [show ((j + 1 : Nat) : Int) = (j : Int) + 1 by omega]; exact ho', hi', by rw [l1]; exact hlen, by rw [l3]; exact hsk, by rw [l2]; exact hll⟩, by omega⟩
  · -- all messages are dropped
    refine loop0 (fun h4 => ∃ (f : LF) (s1 s2 : Sl) (o : Nat → Int), At hB h4 (fieldL d ty s1 s2 f ++ []) ∧ LOk 100 f ∧ LInv f o ∧ f.l.length = k ∧ f.skew = s ∧ f.len = long) (flN d)
      ⟨f, s1, s2, o, H, ⟨ho.n7, ho.len, ho.skew, fun x hx => by have := ho.nd x hx; omega, ho.pk, by have := ho.fl; omega, by decide⟩, hi, hlen, hsk, hll⟩ fun _ h4 hI => ?_
    obtain ⟨f, s1, s2, o, H, ho, hi, hlen, hsk, hll⟩ := hI
    refine lease_Flight_ok H (brD (fun hpos => ?_) fun hz => ?_)
    · refine lease_Drop_ok H ho (fun hb => by omega) fun i hi0 hil h5 s3 H' => brN rfl ?_
      obtain rfl : i = 0 := by omega
      have e1 := flN_eq H
      have e2 := flN_eq H'
      have e3 := drop_len hil
      exact ⟨⟨_, s1, s3, o, H', ho.drop 0, hi.fewer _ drop_mem, hlen, hsk, hll⟩, by omega⟩
    · have hfl : f.fl = [] := List.eq_nil_of_length_eq_zero (by omega)
      obtain ⟨v, hv1, hv2⟩ := base_ex hi (by omega)
      rw [w64 (n := long + s) (by omega) (by omega)]
      have hun : ∀ i, i < k → (f.nd i).until_ ≤ v + s + long := fun i hik => by
        have h1 := hi.unt i (by omega)
        have h2 := hv2 i (by omega)
        rw [nd_get (by omega)] at h1 ⊢
        omega
      refine loop1 (s1 := .one (.int .i64)) (fun (x : Int) h5 => ∃ (j : Nat) (f : LF), x = j ∧ (j : Int) ≤ long + s ∧ At hB h5 (fieldL d ty s1 s2 f ++ []) ∧ LOk (100 + 7 * j) f ∧ f.l.length = k ∧ f.skew = s ∧ f.len = long ∧ f.fl = [] ∧ (∀ i, (hi : i < f.l.length) → v + j ≤ f.l[i].clock) ∧ ∀ i, i < k → (f.nd i).until_ ≤ v + s + long) (fun (x : Int) _ => (long + s - x).toNat)
        ⟨0, f, rfl, by omega, H, ho, hlen, hsk, hll, hfl, fun i hi => by have := hv1 i hi; omega, hun⟩ fun _ (x : Int) h5 hI => ?_
      obtain ⟨j, f, rfl, hj, H, ho, hlen, hsk, hll, hfl, hlo, hun⟩ := hI
      refine brD (fun hc3 => ?_) fun hc3 => ?_
      · refine loop1 (s1 := .one (.int .i64)) (fun (y : Int) h6 => ∃ (m : Nat) (f : LF), y = m ∧ m ≤ k ∧ At hB h6 (fieldL d ty s1 s2 f ++ []) ∧ LOk (100 + 7 * j + m) f ∧ f.l.length = k ∧ f.skew = s ∧ f.len = long ∧ f.fl = [] ∧ (∀ i, (hi : i < f.l.length) → v + j ≤ f.l[i].clock) ∧ (∀ i, i < k → (f.nd i).until_ ≤ v + s + long) ∧ low f (v + j) + m ≤ k) (fun (y : Int) _ => (k - y).toNat)
          ⟨0, f, rfl, Nat.zero_le _, H, by simpa using ho, hlen, hsk, hll, hfl, hlo, hun, by have := low_le f (v + j); omega⟩ fun _ (y : Int) h6 hI => ?_
        obtain ⟨m, f, rfl, hm, H, ho, hlen, hsk, hll, hfl, hlo, hun, hlow⟩ := hI
        refine brD (fun hc4 => ?_) fun hc4 => ?_
        · refine loop2 (s1 := .one (.int .i64)) (s2 := .one (.int .i64)) (fun (q z : Int) h7 => h7 = h6 ∧ ∃ qn zn : Nat, q = qn ∧ z = zn ∧ zn ≤ k ∧ ∃ hq : qn < f.l.length, ∀ i, (hi : i < f.l.length) → i < zn → f.l[qn].clock ≤ f.l[i].clock) (fun _ (z : Int) _ => (k - z).toNat)
            ⟨rfl, 0, 0, rfl, rfl, Nat.zero_le _, by omega, fun i _ hi => by omega⟩ fun _ (q z : Int) h7 hI => ?_
          obtain ⟨rfl, qn, zn, rfl, rfl, hz, hq, hmin⟩ := hI
          refine brD (fun hc5 => ?_) fun hc5 => ?_
          · refine lease_Clock_ok H (fun hb => by omega) fun i1 hi1 hi1l => ?_
            obtain rfl : zn = i1 := by omega
            refine lease_Clock_ok H (fun hb => by omega) fun i2 hi2 hi2l => ?_
            obtain rfl : qn = i2 := by omega
            rw [w64 (by omega) (by omega)]
            refine brD (fun hlt => ?_) fun hge => ?_
            · refine ⟨⟨rfl, zn, zn + 1, rfl, by omega, by omega, hi1l, fun i hi hiz => ?_⟩, by omega⟩
              by_cases h1 : i < zn
              · have := hmin i hi h1; omega
              · obtain rfl : i = zn := by omega
                exact Int.le_refl _
            · refine ⟨⟨rfl, qn, zn + 1, rfl, by omega, by omega, hq, fun i hi hiz => ?_⟩, by omega⟩
              by_cases h1 : i < zn
              · exact hmin i hi h1
              · obtain rfl : i = zn := by omega
                omega
          · have hmin : ∀ i, (hi : i < f.l.length) → f.l[qn].clock ≤ f.l[i].clock := fun i hi => hmin i hi (by omega)
            refine lease_Tick_ok H ho (fun hb => by omega) fun q2 hq2 hq2l h8 H => ?_
            obtain rfl : qn = q2 := by omega
            have hcond : ∀ i, (hi : i < f.l.length) → i ≠ qn → f.l[qn].clock + 1 - f.l[i].clock ≤ f.skew := fun i hi _ => by have := hmin i hi; omega
            have e : tickM f qn f.l[qn] = ({ f with l := f.l.set qn { f.l[qn] with clock := f.l[qn].clock + 1 } }, 0) := by unfold tickM; rw [if_pos hcond]
            rw [e] at H ⊢
            have ho' := ho.step (.tick qn hq hcond) (by omega)
            have hl' : (f.l.set qn { f.l[qn] with clock := f.l[qn].clock + 1 }).length = f.l.length := List.length_set
            refine brN rfl ?_
            rw [w64 (by omega) (by omega)]
            refine ⟨⟨m + 1, _, by omega, by omega, H, by rw [show (100 + 7 * (j : Int) + ((m + 1 : Nat) : Int)) = 100 + 7 * j + m + 1 by omega]; exact ho', by rw [← hlen]; exact hl', hsk, hll, hfl, fun i hi => ?_, fun i hik => ?_, ?_⟩, by omega⟩
            · have hi2 : i < f.l.length := by rw [← hl']; exact hi
              have h1 := hlo i hi2
              have h2 := hlo qn hq
              show v + j ≤ (f.l.set qn { f.l[qn] with clock := f.l[qn].clock + 1 })[i].clock
              rw [List.getElem_set]
              split
              · show v + j ≤ f.l[qn].clock + 1; omega
              · exact h1
            · have h1 := hun i hik
              rw [nd_set hq]
              split
              · rename_i hiq; subst hiq; rw [nd_get hq] at h1; exact h1
              · exact h1
            · show low { f with l := f.l.set qn { f.l[qn] with clock := f.l[qn].clock + 1 } } (v + j) + (m + 1) ≤ k
              by_cases hl0 : low f (v + j) = 0
              · have := low_tick hq hmin hlo 0 (by omega)
                omega
              · have := low_tick hq hmin hlo (low f (v + j) - 1) (by omega)
                omega
        · have hmk : m = k := by omega
          have hz0 := low_zero (f := f) (v := v + j) (by omega)
          rw [w64 (by omega) (by omega)]
          refine ⟨⟨j + 1, f, by omega, by omega, H, ⟨ho.n7, ho.len, ho.skew, fun x hx => by have := ho.nd x hx; omega, ho.pk, by have := ho.fl; omega, by omega⟩, hlen, hsk, hll, hfl, fun i hi => by have := hz0 i hi; omega, hun⟩, by omega⟩
      · -- one asks
        refine nz (by omega) ?_
        rw [w64 (n := who) (by omega) (by omega), rem_nonneg w4.1]
        have m0 : 0 ≤ who % (k : Int) := Int.emod_nonneg _ (by omega)
        have m1 : who % (k : Int) < k := Int.emod_lt_of_pos _ (by omega)
        generalize who % (k : Int) = i at *
        obtain ⟨i, rfl⟩ : ∃ i' : Nat, i = i' := ⟨i.toNat, by omega⟩
        refine let_ (lease_Ask_ok H ho (fun hb => by omega) fun i' hi' hil h6 s3 H => brN rfl ?_)
        obtain rfl : i = i' := by omega
        have ho1 := ho.step (.ask i hil) (by omega)
        have g0 := ask_gq hlen (by omega) hfl (fun i2 hi2 => by
          have h1 := hun i2 hi2
          have h2 := hlo i2 (by omega)
          rw [nd_get (by omega)] at h1 ⊢
          omega) hil
        rw [w64 (n := 2 * (k : Int)) (by omega) (by omega)]
        rw [hll, hsk] at g0
        refine loop1 (s1 := .one (.int .i64)) (fun (z : Int) h7 => ∃ (zn : Nat) (f' : LF) (s1 s2 : Sl), z = zn ∧ zn ≤ 2 * k ∧ At hB h7 (fieldL d ty s1 s2 f' ++ []) ∧ LOk (1000 + zn) f' ∧ Gq k i (f.l[i].round + 1) f.l[i].clock long s zn f') (fun (z : Int) _ => (2 * k - z).toNat)
          ⟨0, _, s1, s3, rfl, by omega, H, ⟨ho1.n7, ho1.len, ho1.skew, fun x hx => by have := ho1.nd x hx; omega, ho1.pk, by have := ho1.fl; omega, by decide⟩, g0⟩ fun _ (z : Int) h7 hI => ?_
        obtain ⟨zn, f', s1, s2, rfl, hzn, H, ho', g⟩ := hI
        refine brD (fun hc6 => ?_) fun hc6 => ?_
        · obtain ⟨hp, g'⟩ := g.step (by omega) (by omega)
          refine lease_Deliver_ok H ho' (fun hb => by omega) fun q hq hql ht h8 s4 H => brN rfl ?_
          obtain rfl : q = 0 := by omega
          have hst := ho'.step (deliver_step ho' 0 hp) (by omega)
          rw [← nd_get ht] at H
          rw [w64 (by omega) (by omega)]
          exact ⟨⟨zn + 1, _, s1, s4, by omega, by omega, H, by rw [show (1000 + ((zn + 1 : Nat) : Int)) = 1000 + (zn : Int) + 1 by omega]; exact hst, g'⟩, by omega⟩
        · obtain ⟨y, hy1, hy2, b1, b2, b3⟩ := g.b (by omega)
          have hyk : y = k := by omega
          have hil2 : i < f'.l.length := by rw [g.ln]; exact g.il
          refine lease_Holds_ok H (fun hb => by rw [g.ln] at hb; omega) fun i2 hi2 hi2l => ?_
          obtain rfl : i = i2 := by omega
          have c1 := g.ck
          have c2 := b3 hyk
          rw [nd_get hil2] at c1 c2
          refine brY (decide_eq_true (by omega)) (lease_Flight_ok H ⟨?_, H.ext⟩)
          rw [b2, hyk, List.drop_of_length_le (by simp)]
          rfl
end Go.Proofs.Ytegbnmaglkpkjaa
