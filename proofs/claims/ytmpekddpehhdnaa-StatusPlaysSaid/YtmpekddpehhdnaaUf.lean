/-
  Layer 16 (status): the laws' own maps.
-/
import Derived.Test.YtmpekddpehhdnaaUe
import Derived.DeepKeys4
namespace Go.Proofs.Ytmpekddpehhdnaa
open Go
open Go.Maps

theorem laidOutT : laidOutB Try.prog = true := by kernel_rfl
def in64 (x : Int) : Prop := -9223372036854775808 ≤ x ∧ x ≤ 9223372036854775807
theorem zv_run {P : Program} {e : TypeId} {z : Value} (h : (P.info? e).bind (·.zero) = some z) (w : World) : (zeroValue e).run P w = .ok z w := by
  cases hi : P.info? e with
  | none => rw [hi] at h; cases h
  | some i =>
    rw [hi] at h
    have hz : i.zero = some z := h
    simp [zeroValue, typeInfo, program, Sem.run, hi, hz]
def keyI : KeyA Try.prog 3 Int := ⟨fun x => .int .i64 x, in64, fun x hx => ⟨_, keyOf_int_mk Try.underlying3 (wf64 hx.1 hx.2)⟩, fun x y h => by injection h⟩
theorem mapII : MapT Try.prog 86 3 3 := ⟨Try.underlying86, int_keyed Try.underlying3, Try.underlying3, zv_run (by kernel_rfl)⟩
theorem key2 {a b : Int} (ha : (Lit.int .i64 a).wf = true) (hb : (Lit.int .i64 b).wf = true) : ∃ l, keyOf Try.prog 88 (.agg #[.int .i64 a, .int .i64 b]) = some l := by
  have h1 : Try.prog.keyType 88 = true := by kernel_rfl
  have h2 : Value.formed Try.prog 88 (.agg #[.int .i64 a, .int .i64 b]) = true := by kernel_rfl
  have h3 : ∃ n, Try.prog.types.size + 1 = n + 2 := ⟨Try.prog.types.size - 1, by have : 1 ≤ Try.prog.types.size := of_decide_eq_true (by kernel_rfl); omega⟩
  obtain ⟨n, h3⟩ := h3
  have h4 : Try.prog.cellsOf 88 = 2 := by kernel_rfl
  have h5 : Try.prog.cellsOf 3 = 1 := by kernel_rfl
  refine ⟨.string (keyBytes [.int .i64 a, .int .i64 b]), ?_⟩
  unfold keyOf
  rw [Try.underlying88, h3]
  simp [h1, h2, Value.cells, Program.keyLits, Try.underlying88, Try.underlying3, h4, h5, ha, hb]
def keyP : KeyA Try.prog 88 (Int × Int) := ⟨fun x => .agg #[.int .i64 x.1, .int .i64 x.2], fun x => in64 x.1 ∧ in64 x.2, fun x hx => key2 (wf64 hx.1.1 hx.1.2) (wf64 hx.2.1 hx.2.2), fun x y h => by
  have h : Value.agg #[.int .i64 x.1, .int .i64 x.2] = Value.agg #[.int .i64 y.1, .int .i64 y.2] := h
  simp at h
  exact Prod.ext h.1 h.2⟩
theorem mapPI : MapT Try.prog 85 88 3 := ⟨Try.underlying85, Keyed.of_law (deep_law_laid laidOutT (m := 2) (by omega) (of_decide_eq_true (by kernel_rfl)) (by kernel_rfl) (by rw [Try.underlying88])), Try.underlying3, zv_run (by kernel_rfl)⟩
/-! ## StatusOnce -/
def ArgAct6 (hB : Heap) (s : Sl) (acts : List SAct) : Prop := RdS hB 5 s (eSAct.fl acts) ∧ ∀ a ∈ acts, (0 ≤ a.kind ∧ a.kind ≤ 255) ∧ in64 a.tx ∧ in64 a.attempt ∧ in64 a.stamp
theorem wf_in64 {n : Int} (h : (Lit.int .i64 n).wf = true) : in64 n := by
  unfold in64
  simp [Lit.wf, IntKind.min, IntKind.max, IntKind.bits, IntKind.signed] at h; omega
section
open Go.ChangeShapes Go.WideShapes
variable {H : Type} {enc : TypeId × Value → H} {w : World} {b0 : Nat} {v : Value} {d : DataW H} {ps : List MemPlace}
set_option maxRecDepth 100000 in
theorem args_act16 (hval : Value.okWide Try.prog w .any b0 66 v) (hd : DataW.Trod enc Try.prog w 0 (fun _ => true) true 66 v d ps) (hf : Fits Try.prog 66 d) :
    ∃ (s : Sl) (acts : List SAct), v = s.v ∧ ArgAct6 w.heap s acts := by
  have he : ElS enc Try.prog w 74 fun cs => ∃ a : SAct, cs = eSAct.cells a ∧ ((0 ≤ a.kind ∧ a.kind ≤ 255) ∧ in64 a.tx ∧ in64 a.attempt ∧ in64 a.stamp) := by
    refine els_st Try.underlying74 fun cs hl hf => ?_
    have hl3 : cs.length = 5 := hl.trans (by kernel_rfl)
    match cs, hl3 with
    | [c0, c1, c2, c3, c4], _ =>
      obtain ⟨_, _, h0, _⟩ := hf 0 _ rfl
      obtain ⟨_, _, h1, _⟩ := hf 1 _ rfl
      obtain ⟨_, _, h2, _⟩ := hf 2 _ rfl
      obtain ⟨_, _, h3, _⟩ := hf 3 _ rfl
      obtain ⟨_, _, h4, _⟩ := hf 4 _ rfl
      obtain ⟨n0, e0, w0⟩ := el_int Try.underlying5 _ _ _ h0
      obtain ⟨n1, e1, w1⟩ := el_int Try.underlying3 _ _ _ h1
      obtain ⟨n2, e2, w2⟩ := el_int Try.underlying3 _ _ _ h2
      obtain ⟨n3, e3, w3⟩ := el_int Try.underlying3 _ _ _ h3
      obtain ⟨n4, e4, _⟩ := el_int Try.underlying3 _ _ _ h4
      have e0' : [c0] = [Value.int .u8 n0] := e0
      have e1' : [c1] = [Value.int .i64 n1] := e1
      have e2' : [c2] = [Value.int .i64 n2] := e2
      have e3' : [c3] = [Value.int .i64 n3] := e3
      have e4' : [c4] = [Value.int .i64 n4] := e4
      simp only [List.cons.injEq, and_true] at e0' e1' e2' e3' e4'
      subst e0' e1' e2' e3' e4'
      exact ⟨⟨n0, n1, n2, n3, n4⟩, rfl, wf_u8 w0, wf_in64 w1, wf_in64 w2, wf_in64 w3⟩
  obtain ⟨s, css, h1, _, h3, h4, _⟩ := args_sl (sz := 5) Try.underlying66 (by kernel_rfl) (by decide) (of_decide_eq_true (by kernel_rfl)) he hval hd hf
  obtain ⟨acts, h6, h7, _⟩ := cells_of eSAct.cells _ fun c hc => (h3 c hc).2
  rw [h6] at h4
  exact ⟨s, acts, h1, h4.rd, h7⟩
end
set_option maxHeartbeats 3200000 in
theorem law16_StatusOnce_ok {l : Sl} {hB : Heap} {acts : List SAct} (w0 : ArgAct6 hB l acts) : C_law16_StatusOnce l hB fun r h' => r = true ∧ Ext hB.size hB h' := by
  refine A_law16_StatusOnce ?_
  unfold S_law16_StatusOnce
  obtain ⟨A, hk⟩ := w0
  have hn := rdn A
  refine law16_fixed_ok fun h1 e1 => brN rfl (brD (fun _ => ⟨rfl, e1⟩) fun hc => ?_)
  refine status_New_ok (At.of_ext e1) fun h2 d ty H => ?_
  refine mkMap (A := keyP) (e := 3) H fun h3 m H => ?_
  refine mkMap (A := keyI) (e := 3) H fun h4 m1 H => ?_
  have H := H.mv 2 2
  refine loop1 (s1 := .one (.int .i64)) (fun (x : Int) h5 => ∃ (j : Nat) (s : Sl) (t : List SRow) (f : Int × Int → Option Int) (g : Int → Option Int), x = j ∧ j ≤ acts.length ∧ At hB h5 (tabL d ty s t ++ [mapR keyI 3 m1 j g, mapR keyP 3 m j f]) ∧ SOk j t ∧ ToldInv t f ∧ WonInv t g) (fun (x : Int) _ => (acts.length - x).toNat)
    ⟨0, _, [], _, _, rfl, Nat.zero_le _, H, new_sok, (fun p v hp => by cases hp), (fun tx w hw => by cases hw)⟩ fun _ (x : Int) h5 hI => ?_
  obtain ⟨j, s, t, f, g, rfl, hj, H, ho, hf, hg⟩ := hI
  refine brD (fun hc2 => ?_) fun hc2 => ?_
  · have hj2 : j < acts.length := by omega
    obtain ⟨hkd, htx, hat, _⟩ := hk _ (List.getElem_mem hj2)
    refine ixR (H.arg A) j rfl hj2 fun e he => ?_
    repeat (first | with_reducible refine nn ?_ | with_reducible refine let_ ?_ | with_reducible refine brSome ?_ | with_reducible refine brF ?_ | with_reducible refine brT ?_ | ((with_reducible apply ldAt H 0); exact rfl; exact rfl) | ((with_reducible apply ldAt0 H 0); exact rfl; exact rfl) | ((with_reducible apply ldR (H.arg A)); assumption; (case hk => assumption); exact rfl) | ((with_reducible apply ldR0 (H.arg A)); assumption; (case hk => assumption); exact rfl) | ((with_reducible apply stAt H 0); exact rfl; exact rfl; intro h H) | ((with_reducible apply stAt0 H 0); exact rfl; exact rfl; intro h H) | ((with_reducible apply allocAt H); intro h b H) | ((with_reducible refine ⟨?_, ?_⟩); first | ((with_reducible apply ldAt H 0); exact rfl; exact rfl; exact rfl) | ((with_reducible apply ldAt0 H 0); exact rfl; exact rfl; exact rfl)))
    have H := H.mv 1 2
    refine law16_do_ok (a := acts[j]) (F := _ :: _) H ho (by omega) hkd.1 fun h6 s H => ?_
    have ans := act_ans ho acts[j]
    have ho' := ho.act acts[j]
    have hf' := hf.step ho ans.step
    have hg' := hg.step ho ans.step
    have a2 := ans.err
    have a3 := ans.ok
    generalize hres : sActM t acts[j] = res at *
    have next : ∀ {h' : Heap} {g' : Int → Option Int} {f' : Int × Int → Option Int} {q : Res} {n1 n2 : Nat}, n1 ≤ j + 1 → n2 ≤ j + 1 → At hB h' (tabL d ty s res.1 ++ (q :: [mapR keyI 3 m1 n1 g', mapR keyP 3 m n2 f'])) → ToldInv res.1 f' → WonInv res.1 g' →
        (∃ (j_1 : Nat) (s : Sl) (t : List SRow) (f : Int × Int → Option Int) (g : Int → Option Int), IntKind.i64.wrap ((j : Int) + 1) = j_1 ∧ j_1 ≤ acts.length ∧ At hB h' (tabL d ty s t ++ [mapR keyI 3 m1 j_1 g, mapR keyP 3 m j_1 f]) ∧ SOk j_1 t ∧ ToldInv t f ∧ WonInv t g) ∧ ((acts.length : Int) - IntKind.i64.wrap ((j : Int) + 1)).toNat < ((acts.length : Int) - (j : Int)).toNat := fun {h' g' f' q n1 n2} hn1 hn2 H hf hg => by
      rw [w64 (by omega) (by omega)]
      have H := (H.del 2).as_ 2 rfl (mapR keyI 3 m1 (j + 1) g') (by obtain ⟨D, h1, h2⟩ := H.get 3 rfl; exact ⟨D, h1.mono hn1, h2⟩) (fun g hg => hg)
      have H := H.as_ 3 rfl (mapR keyP 3 m (j + 1) f') (by obtain ⟨D, h1, h2⟩ := H.get 3 rfl; exact ⟨D, h1.mono hn2, h2⟩) (fun g hg => hg)
      exact ⟨⟨j + 1, s, res.1, f', g', by omega, by omega, H, ho', hf, hg⟩, by omega⟩
    refine br bne_iff_ne (fun he => ?_) fun he => ?_
    · rw [a2 he]
      refine brN rfl ?_
      exact next (by omega) (by omega) H hf' hg'
    · have he0 : res.2.2 = 0 := Decidable.not_not.1 he
      obtain ⟨a4, a5, a6⟩ := a3 he0
      repeat (first | with_reducible refine nn ?_ | with_reducible refine let_ ?_ | with_reducible refine brSome ?_ | with_reducible refine brF ?_ | with_reducible refine brT ?_ | ((with_reducible apply ldAt H 0); exact rfl; exact rfl) | ((with_reducible apply ldAt0 H 0); exact rfl; exact rfl) | ((with_reducible apply ldAt H 2); exact rfl; exact rfl) | ((with_reducible apply ldAt0 H 2); exact rfl; exact rfl) | ((with_reducible apply stAt H 0); exact rfl; exact rfl; intro h H) | ((with_reducible apply stAt0 H 0); exact rfl; exact rfl; intro h H) | ((with_reducible apply stAt H 2); exact rfl; exact rfl; intro h H) | ((with_reducible apply stAt0 H 2); exact rfl; exact rfl; intro h H) | ((with_reducible apply allocAt H); intro h b H) | ((with_reducible refine ⟨?_, ?_⟩); first | ((with_reducible apply ldAt H 0); exact rfl; exact rfl; exact rfl) | ((with_reducible apply ldAt0 H 0); exact rfl; exact rfl; exact rfl) | ((with_reducible apply ldAt H 2); exact rfl; exact rfl; exact rfl) | ((with_reducible apply ldAt0 H 2); exact rfl; exact rfl; exact rfl)))
      -- the key's own variable goes behind
      have H := H.mv 1 5
      refine join1 (s1 := .one .bool) (fun (b : Bool) h7 => h7 = h ∧ b = false) (fun _ (b : Bool) h7 hJ => ?_) ?_
      · obtain ⟨rfl, rfl⟩ := hJ
        refine brF ?_
        repeat (first | with_reducible refine nn ?_ | with_reducible refine let_ ?_ | with_reducible refine brSome ?_ | with_reducible refine brF ?_ | with_reducible refine brT ?_ | ((with_reducible apply ldAt H 2); exact rfl; exact rfl) | ((with_reducible apply ldAt0 H 2); exact rfl; exact rfl) | ((with_reducible apply ldAt H 5); exact rfl; exact rfl) | ((with_reducible apply ldAt0 H 5); exact rfl; exact rfl) | ((with_reducible apply stAt H 2); exact rfl; exact rfl; intro h H) | ((with_reducible apply stAt0 H 2); exact rfl; exact rfl; intro h H) | ((with_reducible apply stAt H 5); exact rfl; exact rfl; intro h H) | ((with_reducible apply stAt0 H 5); exact rfl; exact rfl; intro h H) | ((with_reducible apply allocAt H); intro h b H) | ((with_reducible refine ⟨?_, ?_⟩); first | ((with_reducible apply ldAt H 2); exact rfl; exact rfl; exact rfl) | ((with_reducible apply ldAt0 H 2); exact rfl; exact rfl; exact rfl) | ((with_reducible apply ldAt H 5); exact rfl; exact rfl; exact rfl) | ((with_reducible apply ldAt0 H 5); exact rfl; exact rfl; exact rfl)))
        refine updM (A := keyP) mapPI H 4 rfl (by omega) (acts[j].tx, acts[j].attempt) ⟨htx, hat⟩ rfl res.2.1 (wf64 (by omega) (by omega)) fun h8 H => ?_
        have hf2 := hf'.put (p := (acts[j].tx, acts[j].attempt)) a4
        repeat (first | with_reducible refine nn ?_ | with_reducible refine let_ ?_ | with_reducible refine brSome ?_ | with_reducible refine brF ?_ | with_reducible refine brT ?_ | ((with_reducible apply ldAt H 2); exact rfl; exact rfl) | ((with_reducible apply ldAt0 H 2); exact rfl; exact rfl) | ((with_reducible apply stAt H 2); exact rfl; exact rfl; intro h H) | ((with_reducible apply stAt0 H 2); exact rfl; exact rfl; intro h H) | ((with_reducible apply allocAt H); intro h b H) | ((with_reducible refine ⟨?_, ?_⟩); first | ((with_reducible apply ldAt H 2); exact rfl; exact rfl; exact rfl) | ((with_reducible apply ldAt0 H 2); exact rfl; exact rfl; exact rfl)))
        refine lookM2 (A := keyI) mapII H 3 rfl acts[j].tx htx rfl ?_
        refine br beq_iff_eq (fun h2 => ?_) fun h2 => ?_
        · have upd : OpU (P := Try.prog) (Instr.mapUpdate 86 (.map (some m1)) (.int .i64 acts[j].tx) (.int .i64 acts[j].attempt)) h8 fun h' => (∃ (j_1 : Nat) (s : Sl) (t : List SRow) (f : Int × Int → Option Int) (g : Int → Option Int), IntKind.i64.wrap ((j : Int) + 1) = j_1 ∧ j_1 ≤ acts.length ∧ At hB h' (tabL d ty s t ++ [mapR keyI 3 m1 j_1 g, mapR keyP 3 m j_1 f]) ∧ SOk j_1 t ∧ ToldInv t f ∧ WonInv t g) ∧ ((acts.length : Int) - IntKind.i64.wrap ((j : Int) + 1)).toNat < ((acts.length : Int) - (j : Int)).toNat := by
            refine updM (A := keyI) mapII H 3 rfl (by omega) acts[j].tx htx rfl acts[j].attempt (wf64 hat.1 hat.2) fun h9 H => ?_
            exact next (Nat.le_refl _) (Nat.le_refl _) (H.keep 5) hf2 (hg'.put (by rw [a4, h2]))
          cases hw : g acts[j].tx with
          | none =>
            refine brN rfl ?_
            repeat (first | with_reducible refine nn ?_ | with_reducible refine let_ ?_ | with_reducible refine brSome ?_ | with_reducible refine brF ?_ | with_reducible refine brT ?_ | ((with_reducible apply ldAt H 2); exact rfl; exact rfl) | ((with_reducible apply ldAt0 H 2); exact rfl; exact rfl) | ((with_reducible apply stAt H 2); exact rfl; exact rfl; intro h H) | ((with_reducible apply stAt0 H 2); exact rfl; exact rfl; intro h H) | ((with_reducible apply allocAt H); intro h b H) | ((with_reducible refine ⟨?_, ?_⟩); first | ((with_reducible apply ldAt H 2); exact rfl; exact rfl; exact rfl) | ((with_reducible apply ldAt0 H 2); exact rfl; exact rfl; exact rfl)))
            exact upd
          | some w =>
            refine brY rfl ?_
            repeat (first | with_reducible refine nn ?_ | with_reducible refine let_ ?_ | with_reducible refine brSome ?_ | with_reducible refine brF ?_ | with_reducible refine brT ?_ | ((with_reducible apply ldAt H 2); exact rfl; exact rfl) | ((with_reducible apply ldAt0 H 2); exact rfl; exact rfl) | ((with_reducible apply stAt H 2); exact rfl; exact rfl; intro h H) | ((with_reducible apply stAt0 H 2); exact rfl; exact rfl; intro h H) | ((with_reducible apply allocAt H); intro h b H) | ((with_reducible refine ⟨?_, ?_⟩); first | ((with_reducible apply ldAt H 2); exact rfl; exact rfl; exact rfl) | ((with_reducible apply ldAt0 H 2); exact rfl; exact rfl; exact rfl)))
            have := (hg'.at hw a4 a5).1 h2
            refine brN (by show (w != acts[j].attempt) = false; rw [this]; simp) ?_
            repeat (first | with_reducible refine nn ?_ | with_reducible refine let_ ?_ | with_reducible refine brSome ?_ | with_reducible refine brF ?_ | with_reducible refine brT ?_ | ((with_reducible apply ldAt H 2); exact rfl; exact rfl) | ((with_reducible apply ldAt0 H 2); exact rfl; exact rfl) | ((with_reducible apply stAt H 2); exact rfl; exact rfl; intro h H) | ((with_reducible apply stAt0 H 2); exact rfl; exact rfl; intro h H) | ((with_reducible apply allocAt H); intro h b H) | ((with_reducible refine ⟨?_, ?_⟩); first | ((with_reducible apply ldAt H 2); exact rfl; exact rfl; exact rfl) | ((with_reducible apply ldAt0 H 2); exact rfl; exact rfl; exact rfl)))
            exact upd
        · cases hw : g acts[j].tx with
          | none =>
            refine brN rfl ?_
            exact next (by omega) (Nat.le_refl _) (H.keep 5) hf2 hg'
          | some w =>
            refine brY rfl ?_
            repeat (first | with_reducible refine nn ?_ | with_reducible refine let_ ?_ | with_reducible refine brSome ?_ | with_reducible refine brF ?_ | with_reducible refine brT ?_ | ((with_reducible apply ldAt H 2); exact rfl; exact rfl) | ((with_reducible apply ldAt0 H 2); exact rfl; exact rfl) | ((with_reducible apply stAt H 2); exact rfl; exact rfl; intro h H) | ((with_reducible apply stAt0 H 2); exact rfl; exact rfl; intro h H) | ((with_reducible apply allocAt H); intro h b H) | ((with_reducible refine ⟨?_, ?_⟩); first | ((with_reducible apply ldAt H 2); exact rfl; exact rfl; exact rfl) | ((with_reducible apply ldAt0 H 2); exact rfl; exact rfl; exact rfl)))
            have := (hg'.at hw a4 a5).2 h2
            refine brN (decide_eq_false (by show ¬ w ≤ acts[j].attempt; omega)) ?_
            exact next (by omega) (Nat.le_refl _) (H.keep 5) hf2 hg'
      · repeat (first | with_reducible refine nn ?_ | with_reducible refine let_ ?_ | with_reducible refine brSome ?_ | with_reducible refine brF ?_ | with_reducible refine brT ?_ | ((with_reducible apply ldAt H 5); exact rfl; exact rfl) | ((with_reducible apply ldAt0 H 5); exact rfl; exact rfl) | ((with_reducible apply stAt H 5); exact rfl; exact rfl; intro h H) | ((with_reducible apply stAt0 H 5); exact rfl; exact rfl; intro h H) | ((with_reducible apply allocAt H); intro h b H) | ((with_reducible refine ⟨?_, ?_⟩); first | ((with_reducible apply ldAt H 5); exact rfl; exact rfl; exact rfl) | ((with_reducible apply ldAt0 H 5); exact rfl; exact rfl; exact rfl)))
        refine lookM (A := keyP) mapPI H 4 rfl (acts[j].tx, acts[j].attempt) ⟨htx, hat⟩ rfl ?_
        have rest : (bif decide (res.2.1 < 1) then (h = h ∧ true = false) else (h = h ∧ decide (res.2.1 > 3) = false)) := brN (decide_eq_false (by omega)) ⟨rfl, decide_eq_false (by omega)⟩
        refine brD (fun h2 => ?_) fun h2 => rest
        repeat (first | with_reducible refine nn ?_ | with_reducible refine let_ ?_ | with_reducible refine brSome ?_ | with_reducible refine brF ?_ | with_reducible refine brT ?_ | ((with_reducible apply ldAt H 5); exact rfl; exact rfl) | ((with_reducible apply ldAt0 H 5); exact rfl; exact rfl) | ((with_reducible apply stAt H 5); exact rfl; exact rfl; intro h H) | ((with_reducible apply stAt0 H 5); exact rfl; exact rfl; intro h H) | ((with_reducible apply allocAt H); intro h b H) | ((with_reducible refine ⟨?_, ?_⟩); first | ((with_reducible apply ldAt H 5); exact rfl; exact rfl; exact rfl) | ((with_reducible apply ldAt0 H 5); exact rfl; exact rfl; exact rfl)))
        refine lookM (A := keyP) mapPI H 4 rfl (acts[j].tx, acts[j].attempt) ⟨htx, hat⟩ rfl ?_
        have hv : (f (acts[j].tx, acts[j].attempt)).getD 0 = res.2.1 := by
          cases hv : f (acts[j].tx, acts[j].attempt) with
          | none => rw [hv] at h2; exact absurd h2 (by decide)
          | some v =>
            rw [hv] at h2
            have := hf' _ v hv h2
            rw [a4] at this
            exact this.symm
        refine brN (by rw [hv]; simp) rest
  · refine loop1 (s1 := .one (.int .i64)) (fun (x : Int) h6 => ∃ i : Nat, x = i ∧ i ≤ acts.length ∧ At hB h6 (tabL d ty s t ++ [mapR keyI 3 m1 j g, mapR keyP 3 m j f])) (fun (x : Int) _ => (acts.length - x).toNat)
      ⟨0, rfl, Nat.zero_le _, H⟩ fun _ (x : Int) h6 hI => ?_
    obtain ⟨i, rfl, hi, H⟩ := hI
    refine brD (fun hc3 => ?_) fun hc3 => ⟨rfl, H.ext⟩
    have hi2 : i < acts.length := by omega
    obtain ⟨hkd, htx, hat, _⟩ := hk _ (List.getElem_mem hi2)
    refine ixR (H.arg A) i rfl hi2 fun e he => ?_
    repeat (first | with_reducible refine nn ?_ | with_reducible refine let_ ?_ | with_reducible refine brSome ?_ | with_reducible refine brF ?_ | with_reducible refine brT ?_ | ((with_reducible apply ldAt H 0); exact rfl; exact rfl) | ((with_reducible apply ldAt0 H 0); exact rfl; exact rfl) | ((with_reducible apply ldR (H.arg A)); assumption; (case hk => assumption); exact rfl) | ((with_reducible apply ldR0 (H.arg A)); assumption; (case hk => assumption); exact rfl) | ((with_reducible apply stAt H 0); exact rfl; exact rfl; intro h H) | ((with_reducible apply stAt0 H 0); exact rfl; exact rfl; intro h H) | ((with_reducible apply allocAt H); intro h b H) | ((with_reducible refine ⟨?_, ?_⟩); first | ((with_reducible apply ldAt H 0); exact rfl; exact rfl; exact rfl) | ((with_reducible apply ldAt0 H 0); exact rfl; exact rfl; exact rfl)))
    have H := H.mv 2 4
    have next : ∀ {h' : Heap} {M : List Res}, At hB h' (tabL d ty s t ++ [mapR keyI 3 m1 j g, mapR keyP 3 m j f] ++ M) → (∃ i_1 : Nat, IntKind.i64.wrap ((i : Int) + 1) = i_1 ∧ i_1 ≤ acts.length ∧ At hB h' (tabL d ty s t ++ [mapR keyI 3 m1 j g, mapR keyP 3 m j f])) ∧ ((acts.length : Int) - IntKind.i64.wrap ((i : Int) + 1)).toNat < ((acts.length : Int) - (i : Int)).toNat := fun H => by
      rw [w64 (by omega) (by omega)]
      exact ⟨⟨i + 1, by omega, by omega, H.keep 4⟩, by omega⟩
    refine lookM (A := keyP) mapPI H 3 rfl (acts[i].tx, acts[i].attempt) ⟨htx, hat⟩ rfl ?_
    refine brD (fun h2 => ?_) fun h2 => next H
    repeat (first | with_reducible refine nn ?_ | with_reducible refine let_ ?_ | with_reducible refine brSome ?_ | with_reducible refine brF ?_ | with_reducible refine brT ?_ | ((with_reducible apply ldAt H 4); exact rfl; exact rfl) | ((with_reducible apply ldAt0 H 4); exact rfl; exact rfl) | ((with_reducible apply ldAt H 5); exact rfl; exact rfl) | ((with_reducible apply ldAt0 H 5); exact rfl; exact rfl) | ((with_reducible apply stAt H 4); exact rfl; exact rfl; intro h H) | ((with_reducible apply stAt0 H 4); exact rfl; exact rfl; intro h H) | ((with_reducible apply stAt H 5); exact rfl; exact rfl; intro h H) | ((with_reducible apply stAt0 H 5); exact rfl; exact rfl; intro h H) | ((with_reducible apply allocAt H); intro h b H) | ((with_reducible refine ⟨?_, ?_⟩); first | ((with_reducible apply ldAt H 4); exact rfl; exact rfl; exact rfl) | ((with_reducible apply ldAt0 H 4); exact rfl; exact rfl; exact rfl) | ((with_reducible apply ldAt H 5); exact rfl; exact rfl; exact rfl) | ((with_reducible apply ldAt0 H 5); exact rfl; exact rfl; exact rfl)))
    refine lookM (A := keyP) mapPI H 3 rfl (acts[i].tx, acts[i].attempt) ⟨htx, hat⟩ rfl ?_
    have hln := ho.len
    refine status_State_ok (F := _ :: _) H ho (by omega) fun h7 H => ?_
    refine ⟨ldAt0 H 4 rfl _ rfl (ldAt H 4 rfl _ rfl rfl), lookM (A := keyP) mapPI H 3 rfl (acts[i].tx, acts[i].attempt) ⟨htx, hat⟩ rfl rfl, ?_⟩
    have hv : stateM t acts[i].tx acts[i].attempt = (f (acts[i].tx, acts[i].attempt)).getD 0 := by
      cases hv : f (acts[i].tx, acts[i].attempt) with
      | none => rw [hv] at h2; exact absurd h2 (by decide)
      | some v =>
        rw [hv] at h2
        exact hf _ v hv h2
    refine brN (by rw [hv]; simp) ?_
    exact next H
end Go.Proofs.Ytmpekddpehhdnaa
