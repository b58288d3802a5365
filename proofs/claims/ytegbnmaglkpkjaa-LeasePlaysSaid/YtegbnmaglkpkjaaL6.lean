/-
  Layer 30 (lease): LeaseOne and LeaseGoes over the heap alone.
-/
import Derived.Test.YtegbnmaglkpkjaaL5
namespace Go.Proofs.Ytegbnmaglkpkjaa
open Go

theorem nd_rep {k : Nat} {len skew : Int} (i : Nat) : (newM k len skew).nd i = ⟨0, 0, 0, 0, 0, -1, 0⟩ := by
  unfold LF.nd newM
  by_cases h : i < k
  · simp [h]
  · simp [List.getElem?_eq_none (show (List.replicate k (⟨0, 0, 0, 0, 0, -1, 0⟩ : LNode)).length ≤ i by simp; omega)]; rfl
theorem new_inv {k : Nat} {len skew : Int} (h : newOk k len skew) : LInv (newM k len skew) fun _ => -1 := by
  unfold newOk at h
  refine ⟨by show 1 ≤ skew ∧ 1 ≤ len; omega, fun i _ => by rw [nd_rep]; decide, (fun p hp => by cases hp), fun i j _ _ => by rw [nd_rep, nd_rep]; show (0 : Int) - 0 ≤ skew; omega, fun i _ => by rw [nd_rep]; decide, fun i _ => by rw [nd_rep]; show (0 : Int) ≤ 0 + len; omega,
    fun i _ => by rw [nd_rep]; exact .inl rfl, (fun p hp => by cases hp), fun k' j _ hb => by rw [nd_rep] at hb; simp at hb, fun j k' _ _ hg => ?_, fun i _ => by rw [nd_rep]; exact .inl (Int.le_refl _)⟩
  rcases hg with hg | ⟨p, hp, _⟩
  · rw [nd_rep] at hg; simp at hg
  · cases hp
/-- How many hold the lease, of the first k. -/
def holds (f : LF) (k : Nat) : Nat := ((List.range k).filter fun i => decide ((f.nd i).clock < (f.nd i).till)).length
theorem holds_succ (f : LF) (k : Nat) : holds f (k + 1) = holds f k + (if (f.nd k).clock < (f.nd k).till then 1 else 0) := by
  unfold holds
  rw [List.range_succ, List.filter_append, List.length_append]
  congr 1
  by_cases h : (f.nd k).clock < (f.nd k).till <;> simp [h]
theorem holds_le {f : LF} {o : Nat → Int} (h : LInv f o) : ∀ k, k ≤ f.l.length → holds f k ≤ 1 ∧ (holds f k = 0 ∨ ∃ i, i < k ∧ (f.nd i).clock < (f.nd i).till)
  | 0, _ => ⟨Nat.zero_le _, .inl rfl⟩
  | k + 1, hk => by
    obtain ⟨h1, h2⟩ := holds_le h k (by omega)
    rw [holds_succ]
    split
    · rename_i hc
      rcases h2 with h2 | ⟨i, hi, hi2⟩
      · exact ⟨by omega, .inr ⟨k, by omega, hc⟩⟩
      · have := h.one (by omega) (by omega) hi2 hc
        omega
    · refine ⟨by omega, h2.imp (fun x => by omega) fun ⟨i, hi, hi2⟩ => ⟨i, by omega, hi2⟩⟩
theorem step_len {f f' : LF} (hs : LStep f f') : f'.l.length = f.l.length ∧ f'.len = f.len ∧ f'.skew = f.skew := by
  cases hs with
  | part fl h hl => exact ⟨rfl, rfl, rfl⟩
  | tick k hk h => exact ⟨List.length_set, rfl, rfl⟩
  | ask k hk => exact ⟨List.length_set, rfl, rfl⟩
  | fail k hk => exact ⟨List.length_set, rfl, rfl⟩
  | asked i hi ha t ht hto h => exact ⟨List.length_set, rfl, rfl⟩
  | answered i hi ha t ht hto h till htill => exact ⟨List.length_set, rfl, rfl⟩
set_option maxRecDepth 100000 in
theorem law30_LeaseOne_ok {n length skew : Int} {l : Sl} {hB : Heap} {acts : List LAct} (w0 : 0 ≤ n ∧ n ≤ 255) (w1 : 0 ≤ length ∧ length ≤ 255) (w2 : 0 ≤ skew ∧ skew ≤ 255) (w3 : RdS hB 2 l (eAct.fl acts) ∧ ∀ a ∈ acts, 0 ≤ a.kind ∧ a.kind ≤ 255) :
    C_law30_LeaseOne n length skew l hB fun r h' => r = true ∧ Ext hB.size hB h' := by
  refine A_law30_LeaseOne ?_
  unfold S_law30_LeaseOne
  obtain ⟨A, hk⟩ := w3
  have hn := rdn A
  refine law30_fixed_ok fun h1 e1 => brN rfl (brD (fun _ => ⟨rfl, e1⟩) fun hc => nz (by decide) (nz (by decide) ?_))
  rw [rem_nonneg w0.1, rem_nonneg w2.1, rem_nonneg w1.1]
  rw [w64 (n := n % 7) (by omega) (by omega), w64 (n := skew % 10) (by omega) (by omega), w64 (n := 1 + n % 7) (by omega) (by omega), w64 (n := 1 + skew % 10) (by omega) (by omega)]
  refine let_ (let_ (nz (by decide) ?_))
  rw [w64 (n := length % 20) (by omega) (by omega), w64 (n := 2 * (1 + skew % 10)) (by omega) (by omega), w64 (n := 2 * (1 + skew % 10) + 1) (by omega) (by omega), w64 (n := 2 * (1 + skew % 10) + 1 + length % 20) (by omega) (by omega)]
  refine lease_New_ok (At.of_ext e1) (fun hb => absurd (by unfold newOk; omega) hb) fun k hkn hok h2 d ty s1 H => ?_
  have hk0 : 1 ≤ k ∧ k ≤ 7 := by omega
  rw [hkn] at hok ⊢
  generalize hs : 1 + skew % 10 = s at *
  refine loop1 (s1 := .one (.int .i64)) (fun (x : Int) h3 => ∃ (j : Nat) (f : LF) (s1 s2 : Sl) (o : Nat → Int), x = j ∧ j ≤ acts.length ∧ At hB h3 (fieldL d ty s1 s2 f ++ []) ∧ LOk j f ∧ LInv f o ∧ f.l.length = k ∧ f.skew = s) (fun (x : Int) _ => (acts.length - x).toNat)
    ⟨0, _, s1, _, _, rfl, Nat.zero_le _, H, new_ok hok, new_inv hok, List.length_replicate, rfl⟩ fun _ (x : Int) h3 hI => ?_
  obtain ⟨j, f, s1, s2, o, rfl, hj, H, ho, hi, hlen, hsk⟩ := hI
  refine brD (fun hc2 => ?_) fun hc2 => ?_
  · have hj2 : j < acts.length := by omega
    refine ixR (H.arg A) j rfl hj2 fun e he => ?_
    repeat (first | with_reducible refine nn ?_ | with_reducible refine let_ ?_ | with_reducible refine brSome ?_ | with_reducible refine brF ?_ | with_reducible refine brT ?_ | ((with_reducible apply ldAt H 0); exact rfl; exact rfl) | ((with_reducible apply ldAt0 H 0); exact rfl; exact rfl) | ((with_reducible apply ldR (H.arg A)); assumption; (case hk => assumption); exact rfl) | ((with_reducible apply ldR0 (H.arg A)); assumption; (case hk => assumption); exact rfl) | ((with_reducible apply stAt H 0); exact rfl; exact rfl; intro h H) | ((with_reducible apply stAt0 H 0); exact rfl; exact rfl; intro h H) | ((with_reducible apply allocAt H); intro h b H) | ((with_reducible refine ⟨?_, ?_⟩); first | ((with_reducible apply ldAt H 0); exact rfl; exact rfl; exact rfl) | ((with_reducible apply ldAt0 H 0); exact rfl; exact rfl; exact rfl)))
    have H := H.tail
    have hkd := (hk _ (List.getElem_mem hj2)).1
    refine law30_do_ok H ho hkd fun h4 s1 s2 H => ?_
    have hst := act_step ho acts[j].kind acts[j].n
    have ho' := ho.step hst (by omega)
    obtain ⟨o', hi'⟩ := hi.step hst
    obtain ⟨l1, l2, l3⟩ := step_len hst
    generalize (actM f acts[j].kind acts[j].n).1 = f' at *
    refine loop2 (s1 := .one (.int .i64)) (s2 := .one (.int .i64)) (fun (c y : Int) h5 => ∃ i : Nat, y = i ∧ i ≤ k ∧ c = holds f' i ∧ At hB h5 (fieldL d ty s1 s2 f' ++ [])) (fun _ (y : Int) _ => (k - y).toNat) ⟨0, rfl, Nat.zero_le _, rfl, H⟩ fun _ (c y : Int) h5 hI2 => ?_
    obtain ⟨i, rfl, hik, rfl, H⟩ := hI2
    have hho := (holds_le hi' i (by omega)).1
    refine brD (fun hc3 => ?_) fun hc3 => ?_
    · have hi2 : i < f'.l.length := by omega
      refine lease_Holds_ok H (fun hb => by omega) fun i' hi3 _ => ?_
      obtain rfl : i = i' := by omega
      refine join1 (s1 := .one (.int .i64)) (fun (c : Int) h6 => h6 = h5 ∧ c = holds f' (i + 1)) (fun _ (c : Int) h6 hJ => ?_) ?_
      · obtain ⟨rfl, rfl⟩ := hJ
        refine loop1 (s1 := .one (.int .i64)) (fun (z : Int) h7 => h7 = h6 ∧ ∃ m : Nat, z = m ∧ m ≤ k) (fun (z : Int) _ => (k - z).toNat) ⟨rfl, 0, rfl, Nat.zero_le _⟩ fun _ (z : Int) h7 hI3 => ?_
        obtain ⟨rfl, m, rfl, hm⟩ := hI3
        refine brD (fun hc4 => ?_) fun hc4 => ?_
        · refine lease_Clock_ok H (fun hb => by omega) fun i2 hi4 _ => ?_
          obtain rfl : i = i2 := by omega
          refine lease_Clock_ok H (fun hb => by omega) fun m2 hm2 hm3 => ?_
          obtain rfl : m = m2 := by omega
          have hsk2 := hi'.skew i m hi2 hm3
          rw [nd_get hi2, nd_get hm3, l3, hsk] at hsk2
          have b1 := ho'.nd _ (List.getElem_mem hi2)
          have b2 := ho'.nd _ (List.getElem_mem hm3)
          rw [w64 (n := f'.l[i].clock - f'.l[m].clock) (by omega) (by omega), w64 (by omega) (by omega)]
          exact brD (fun hgt => by omega) fun _ => ⟨⟨rfl, m + 1, by omega, by omega⟩, by omega⟩
        · rw [w64 (by omega) (by omega)]
          exact ⟨⟨i + 1, by omega, by omega, rfl, H⟩, by omega⟩
      · rw [holds_succ, nd_get hi2]
        refine brD (fun hh => let_ ⟨rfl, ?_⟩) fun hh => ⟨rfl, ?_⟩
        · rw [w64 (by omega) (by omega), if_pos hh]; omega
        · rw [if_neg hh]; omega
    · have hik2 : i = k := by omega
      have := (holds_le hi' i (by omega)).1
      refine brD (fun hgt => by omega) fun _ => ?_
      rw [w64 (by omega) (by omega)]
      exact ⟨⟨j + 1, f', s1, s2, o', by omega, by omega, H, by rw [show ((j + 1 : Nat) : Int) = (j : Int) + 1 by omega]; exact ho', hi', by omega, by rw [l3, hsk]⟩, by omega⟩
  · refine lease_Clock_ok H (fun hb => by omega) fun i hi0 hil => ?_
    have := ho.nd _ (List.getElem_mem hil)
    exact ⟨decide_eq_true (by omega), H.ext⟩
section
open Go.ChangeShapes Go.WideShapes
variable {H : Type} {enc : TypeId × Value → H} {w : World} {b0 : Nat} {v : Value} {d : DataW H} {ps : List MemPlace}
set_option maxRecDepth 100000 in
theorem args_act30 (hval : Value.okWide Try.prog w .any b0 40 v) (hd : DataW.Trod enc Try.prog w 0 (fun _ => true) true 40 v d ps) (hf : Fits Try.prog 40 d) :
    ∃ (s : Sl) (acts : List LAct), v = s.v ∧ RdS w.heap 2 s (eAct.fl acts) ∧ ∀ a ∈ acts, 0 ≤ a.kind ∧ a.kind ≤ 255 := by
  have he : ElS enc Try.prog w 46 fun cs => ∃ a : LAct, cs = eAct.cells a ∧ 0 ≤ a.kind ∧ a.kind ≤ 255 := by
    refine els_st Try.underlying46 fun cs hl hf => ?_
    have hl3 : cs.length = 2 := hl.trans (by kernel_rfl)
    match cs, hl3 with
    | [c0, c1], _ =>
      obtain ⟨_, _, h0, _⟩ := hf 0 _ rfl
      obtain ⟨_, _, h1, _⟩ := hf 1 _ rfl
      obtain ⟨n0, e0, w0⟩ := el_int Try.underlying5 _ _ _ h0
      obtain ⟨n1, e1, w1⟩ := el_int Try.underlying3 _ _ _ h1
      have e0' : [c0] = [Value.int .u8 n0] := e0
      have e1' : [c1] = [Value.int .i64 n1] := e1
      simp only [List.cons.injEq, and_true] at e0' e1'
      subst e0' e1'
      exact ⟨⟨n0, n1⟩, rfl, wf_u8 w0⟩
  obtain ⟨s, css, h1, _, h3, h4, _⟩ := args_sl (sz := 2) Try.underlying40 (by kernel_rfl) (by decide) (of_decide_eq_true (by kernel_rfl)) he hval hd hf
  obtain ⟨acts, h6, h7, _⟩ := cells_of eAct.cells _ fun c hc => (h3 c hc).2
  rw [h6] at h4
  exact ⟨s, acts, h1, h4.rd, h7⟩
end
end Go.Proofs.Ytegbnmaglkpkjaa
