/-
  Layer 18 (wire): contracts of numbers, commands and answers: the program's, and the document's.
-/
import Derived.Test.YtnognoiaakiepaaXa
import Derived.Test.YtnognoiaakiepaaHc
import Derived.Test.YtnognoiaakiepaaRd
import Derived.Test.YtnognoiaakiepaaSX
namespace Go.Proofs.Ytnognoiaakiepaa
open Go

def eNU : Enc Int 1 := ⟨fun n => [.int .i64 n], fun _ => rfl, by decide, fun x u hu => by
  simp only [List.mem_cons, List.not_mem_nil, or_false] at hu
  subst hu; rfl⟩
theorem TI : ElemT Try.prog 144 3 1 8 := .of (by kernel_rfl)
theorem ZI : ZeroT Try.prog 3 [.int .i64 0] := ⟨by kernel_rfl⟩
/-- What was read so far: whether it failed, what is left, the last number. -/
def nst (l : List UInt8) : Nat → Bool × List UInt8 × Int
  | 0 => (false, l, 0)
  | k + 1 => rI (nst l k).1 (nst l k).2.1
def nvs (l : List UInt8) (k : Nat) : List Int := (List.range k).map fun i => (nst l (i + 1)).2.2
theorem nvs_len (l : List UInt8) (k : Nat) : (nvs l k).length = k := by simp [nvs]
theorem nvs_succ (l : List UInt8) (k : Nat) : nvs l (k + 1) = nvs l k ++ [(nst l (k + 1)).2.2] := by simp [nvs, List.range_succ]
section
variable {h0 hB h : Heap} {L F : List Res} {p b : Nat} {ty : TypeId} {s q : Sl} {l0 xs l : List UInt8} {bad : Bool}
theorem be8s_len : ∀ (ns : List Int), (ns.flatMap be8).length = ns.length * 8
  | [] => rfl
  | n :: ns => by rw [List.flatMap_cons, List.length_append, be8_length, be8s_len ns, List.length_cons]; omega
theorem wire_numbers_ok {ns : List Int} {t : TypeId} {R : Sl → Heap → Prop} (H : At h0 h (.own s 1 (cB xs) :: F)) (j : Nat) (hj : F[j]? = some (.blk b t (eNU.fl ns))) (hx : xs.length ≤ 1000000) (hn : ns.length ≤ 1000)
    (hR : ∀ s' h', At h0 h' (.own s' 1 (cB (xs ++ ns.flatMap be8)) :: F) → R s' h') : C_wire_numbers s ⟨some ⟨b, 0, none⟩, ns.length, ns.length⟩ h R := by
  refine A_wire_numbers ?_
  unfold S_wire_numbers
  have hfl : ∀ k, ((ns.take k).flatMap be8).length = min k ns.length * 8 := fun k => by rw [be8s_len, List.length_take]
  refine loop2 (s1 := .one .sl) (s2 := .one (.int .i64)) (fun (s1 : Sl) (x : Int) h2 => ∃ k : Nat, x = k ∧ k ≤ ns.length ∧ At h0 h2 (.own s1 1 (cB (xs ++ (ns.take k).flatMap be8)) :: F)) (fun _ (x : Int) _ => (ns.length - x).toNat)
    ⟨0, rfl, Nat.zero_le _, by rw [List.take_zero, List.flatMap_nil, List.append_nil]; exact H⟩ fun _ (s1 : Sl) (x : Int) h2 hI => ?_
  obtain ⟨k, rfl, hk, H⟩ := hI
  refine brD (fun hc => ?_) fun hc => ?_
  · have hk2 : k < ns.length := by simp only at hc; omega
    have hb : Blk h2 b t (eNU.fl ns) := H.get (r := .blk b t (eNU.fl ns)) (j + 1) (by simpa using hj)
    have hr : RdS h2 1 ⟨some ⟨b, 0, none⟩, ns.length, ns.length⟩ (eNU.fl ns) := (Own.full hb (sz := 1) (n := ns.length) (by rw [eNU.fl_len]) (by omega)).rd
    refine ixR hr k rfl hk2 fun e he => ldR0 hr he hk2 ns[k] rfl ?_
    refine wIntA H 0 rfl (by rw [List.length_append, hfl]; omega) fun s3 h3 H => ?_
    rw [w64 (by omega) (by omega)]
    refine ⟨⟨k + 1, by omega, by omega, ?_⟩, by omega⟩
    have e : xs ++ (ns.take (k + 1)).flatMap be8 = xs ++ (ns.take k).flatMap be8 ++ be8 ns[k] := by
      rw [take_snoc ns k hk2, List.flatMap_append, List.append_assoc]; simp
    rw [e]
    exact H
  · have hkl : k = ns.length := by simp only at hc; omega
    subst hkl
    rw [List.take_length] at H
    exact hR s1 h2 H
theorem wire_number_ok {R : Int → Heap → Prop} (H : At h0 h (rdr p ty s bad :: F)) (hs : RdF q l0 s l) (hq : Src h0 p F q l0)
    (hR : ∀ h' s', At h0 h' (rdr p ty s' (rI bad l).1 :: F) → RdF q l0 s' (rI bad l).2.1 → R (rI bad l).2.2 h') : C_wire_number (some ⟨p, 0, none⟩) h R :=
  A_wire_number (word_Int_ok H hs hq hR)
theorem wire_some_ok {R : Sl → Heap → Prop} {n : Nat} (hn : n ≤ 1000) (H : At h0 h (rdr p ty s false :: F)) (hs : RdF q l0 s l) (hq : SrcF h0 F q l0)
    (hR : ∀ sl h' s', At h0 h' (rdr p ty s' (nst l n).1 :: .own sl 1 (eNU.fl (nvs l n)) :: F) → RdF q l0 s' (nst l n).2.1 → R sl h') : C_wire_some (some ⟨p, 0, none⟩) (n : Int) h R := by
  refine A_wire_some ?_
  unfold S_wire_some
  refine mk TI ZI n n rfl rfl (Nat.le_refl _) (by omega) (by omega) fun h1 b1 e1 z1 => ?_
  have hrep : (List.replicate n [Value.int .i64 0]).flatten = eNU.fl (List.replicate n 0) := by
    unfold Enc.fl
    rw [List.flatMap_replicate]; rfl
  rw [hrep] at b1
  have o1 : Own h1 1 ⟨some ⟨h.size, 0, none⟩, n, n⟩ (eNU.fl (List.replicate n 0)) := Own.full b1 (sz := 1) (n := n) (by rw [eNU.fl_len]; simp) (by omega)
  have H := (H.new e1 (r := .own ⟨some ⟨h.size, 0, none⟩, n, n⟩ 1 (eNU.fl (List.replicate n 0))) o1 fun g hg => by simp [Res.fp, Sl.blk] at hg; omega).mv 1 1
  refine loop1 (s1 := .one (.int .i64)) (fun (x : Int) h2 => ∃ (k : Nat) (s' : Sl), x = k ∧ k ≤ n ∧ At h0 h2 (rdr p ty s' (nst l k).1 :: .own ⟨some ⟨h.size, 0, none⟩, n, n⟩ 1 (eNU.fl (nvs l k ++ List.replicate (n - k) 0)) :: F) ∧ RdF q l0 s' (nst l k).2.1) (fun (x : Int) _ => (n - x).toNat)
    ⟨0, s, rfl, Nat.zero_le _, by rw [show nvs l 0 ++ List.replicate (n - 0) (0 : Int) = List.replicate n 0 by simp [nvs]]; exact H, hs⟩ fun _ (x : Int) h2 hI => ?_
  obtain ⟨k, s', rfl, hk, H, r2⟩ := hI
  refine brD (fun hc => ?_) fun hc => ?_
  · have hk2 : k < n := by simp only at hc; omega
    have hsrc : SrcF h0 F q l0 := hq
    refine wire_number_ok (F := .own ⟨some ⟨h.size, 0, none⟩, n, n⟩ 1 (eNU.fl (nvs l k ++ List.replicate (n - k) 0)) :: F) H r2 (hsrc.src (G := [_])) fun h3 s3 H r3 => ?_
    have hlen : k < (nvs l k ++ List.replicate (n - k) (0 : Int)).length := by rw [List.length_append, nvs_len, List.length_replicate]; omega
    refine ixAt (E := eNU) H 1 rfl k rfl hlen fun e he => stEl0 (E := eNU) (nst l (k + 1)).2.2 H 1 rfl he hlen rfl fun h4 H => ?_
    rw [w64 (by omega) (by omega)]
    refine ⟨⟨k + 1, s3, by omega, by omega, ?_, r3⟩, by omega⟩
    have e : (nvs l k ++ List.replicate (n - k) (0 : Int)).set k (nst l (k + 1)).2.2 = nvs l (k + 1) ++ List.replicate (n - (k + 1)) 0 := by
      rw [List.set_append_right _ _ (by rw [nvs_len]; exact Nat.le_refl _), nvs_len, Nat.sub_self, show n - k = (n - (k + 1)) + 1 by omega, List.replicate_succ, List.set_cons_zero, nvs_succ, List.append_assoc]
      rfl
    rw [e] at H
    exact H
  · have hkl : k = n := by simp only at hc; omega
    subst hkl
    rw [Nat.sub_self, List.replicate_zero, List.append_nil] at H
    exact hR _ h2 s' H r2

/-! ## Commands -/
theorem wire_Command_ok {k t a st op mo : Int} {key val : List UInt8} {y : Bool} {R : Sl → Int → Heap → Prop}
    (h1 : ¬ Cmd.fits ⟨k, t, a, st, op, key, val, mo, y⟩ → ∀ h', Ext hB.size hB h' → R ⟨none, 0, 0⟩ 4 h')
    (h2 : Cmd.fits ⟨k, t, a, st, op, key, val, mo, y⟩ → ∀ s h', Own h' 1 s (cB (cmdB ⟨k, t, a, st, op, key, val, mo, y⟩)) → s.from_ hB.size → Ext hB.size hB h' → R s 0 h') :
    C_wire_Command (k, t, a, st, op, strB key, strB val, mo, y, ()) hB R := by
  refine A_wire_Command ?_
  unfold S_wire_Command
  refine allocAt (At.start hB) fun hc1 p1 H => ldAt H 0 rfl (strB key) rfl ?_
  rw [strB_size]
  refine brD (fun hc => h1 (fun hf => by have h := hf.1; simp only at h; omega) _ H.ext) fun hc1' => ldAt H 0 rfl (strB val) rfl ?_
  rw [strB_size]
  refine brD (fun hc => h1 (fun hf => by have h := hf.2; simp only at h; omega) _ H.ext) fun hc2 => ?_
  have hf : Cmd.fits ⟨k, t, a, st, op, key, val, mo, y⟩ := ⟨by show key.length ≤ 16; omega, by show val.length ≤ 32; omega⟩
  refine ldAt0 H 0 rfl k rfl (ldAt H 0 rfl t rfl (ldAt H 0 rfl a rfl (ldAt H 0 rfl st rfl (ldAt H 0 rfl op rfl (allocAt H fun hc3 p2 H => ?_)))))
  refine wire_numbers_ok (ns := [k, t, a, st, op]) (xs := []) (H.nil 1) 0 rfl (by decide) (by simp) fun s4 h4 H => ?_
  refine ldAt H 2 rfl (strB key) rfl (ldAt H 2 rfl (strB val) rfl ?_)
  have hk1 : key.length ≤ 16 := hf.1
  have hv1 : val.length ≤ 32 := hf.2
  have htk := txt_length key
  have htv := txt_length val
  refine wTextA H 0 rfl (by simp [be8_length] <;> omega) fun s5 h5 H => ⟨ldAt H 2 rfl (strB val) rfl rfl, ?_⟩
  rw [strB_data] at H
  refine wTextA H 0 rfl (by simp [be8_length, htk] <;> omega) fun s6 h6 H => ldAt H 2 rfl mo rfl (ldAt H 2 rfl y rfl ?_)
  rw [strB_data] at H
  refine wIntA H 0 rfl (by simp [be8_length, htk, htv] <;> omega) fun s7 h7 H => ⟨ldAt H 2 rfl y rfl rfl, ?_⟩
  refine wBoolA H 0 rfl (by simp [be8_length, htk, htv] <;> omega) fun s8 h8 H => ?_
  refine h2 hf s8 h8 ?_ (H.from_ 0 rfl) H.ext
  have ho := H.own 0 rfl
  have e : [] ++ [k, t, a, st, op].flatMap be8 ++ txt key ++ txt val ++ be8 mo ++ tru y = cmdB ⟨k, t, a, st, op, key, val, mo, y⟩ := by simp [cmdB]
  rw [← e]
  exact ho
theorem ref18_Command_ok {k t a st op mo : Int} {key val : List UInt8} {y : Bool} {R : ByteArray → Bool → Heap → Prop} (hk : key.length ≤ 1000000) (hv : val.length ≤ 1000000)
    (hR : ∀ v h', Ext hB.size hB h' → (v = true ↔ Cmd.fits ⟨k, t, a, st, op, key, val, mo, y⟩) → R (strB (cmdB ⟨k, t, a, st, op, key, val, mo, y⟩)) v h') :
    C_ref18_Command (k, t, a, st, op, strB key, strB val, mo, y, ()) hB R := by
  refine A_ref18_Command ?_
  unfold S_ref18_Command
  have htk := txt_length key
  have htv := txt_length val
  have htru : (tru y).length = 1 := rfl
  refine allocAt (At.start hB) fun hc1 p1 H => ?_
  repeat (first | with_reducible refine nn ?_ | with_reducible refine let_ ?_ | with_reducible refine brSome ?_ | with_reducible refine brF ?_ | with_reducible refine brT ?_ | ((with_reducible apply ldAt H 0); exact rfl; exact rfl) | ((with_reducible apply ldAt0 H 0); exact rfl; exact rfl) | ((with_reducible apply stAt H 0); exact rfl; exact rfl; intro h H) | ((with_reducible apply stAt0 H 0); exact rfl; exact rfl; intro h H) | ((with_reducible apply allocAt H); intro h b H) | ((with_reducible refine ⟨?_, ?_⟩); first | ((with_reducible apply ldAt H 0); exact rfl; exact rfl; exact rfl) | ((with_reducible apply ldAt0 H 0); exact rfl; exact rfl; exact rfl)))
  refine ref01_IntP fun h2 e2 => ?_
  have H := H.ext' e2
  repeat (first | with_reducible refine nn ?_ | with_reducible refine let_ ?_ | with_reducible refine brSome ?_ | with_reducible refine brF ?_ | with_reducible refine brT ?_ | ((with_reducible apply ldAt H 0); exact rfl; exact rfl) | ((with_reducible apply ldAt0 H 0); exact rfl; exact rfl) | ((with_reducible apply stAt H 0); exact rfl; exact rfl; intro h H) | ((with_reducible apply stAt0 H 0); exact rfl; exact rfl; intro h H) | ((with_reducible apply allocAt H); intro h b H) | ((with_reducible refine ⟨?_, ?_⟩); first | ((with_reducible apply ldAt H 0); exact rfl; exact rfl; exact rfl) | ((with_reducible apply ldAt0 H 0); exact rfl; exact rfl; exact rfl)))
  refine ref01_IntP fun h3 e3 => ?_
  have H := H.ext' e3
  repeat (first | with_reducible refine nn ?_ | with_reducible refine let_ ?_ | with_reducible refine brSome ?_ | with_reducible refine brF ?_ | with_reducible refine brT ?_ | ((with_reducible apply ldAt H 0); exact rfl; exact rfl) | ((with_reducible apply ldAt0 H 0); exact rfl; exact rfl) | ((with_reducible apply stAt H 0); exact rfl; exact rfl; intro h H) | ((with_reducible apply stAt0 H 0); exact rfl; exact rfl; intro h H) | ((with_reducible apply allocAt H); intro h b H) | ((with_reducible refine ⟨?_, ?_⟩); first | ((with_reducible apply ldAt H 0); exact rfl; exact rfl; exact rfl) | ((with_reducible apply ldAt0 H 0); exact rfl; exact rfl; exact rfl)))
  refine cat (by simp only [strB_size, be8_length]; omega) (ref01_IntP fun h4 e4 => ?_)
  have H := H.ext' e4
  rw [strB_append]
  repeat (first | with_reducible refine nn ?_ | with_reducible refine let_ ?_ | with_reducible refine brSome ?_ | with_reducible refine brF ?_ | with_reducible refine brT ?_ | ((with_reducible apply ldAt H 0); exact rfl; exact rfl) | ((with_reducible apply ldAt0 H 0); exact rfl; exact rfl) | ((with_reducible apply stAt H 0); exact rfl; exact rfl; intro h H) | ((with_reducible apply stAt0 H 0); exact rfl; exact rfl; intro h H) | ((with_reducible apply allocAt H); intro h b H) | ((with_reducible refine ⟨?_, ?_⟩); first | ((with_reducible apply ldAt H 0); exact rfl; exact rfl; exact rfl) | ((with_reducible apply ldAt0 H 0); exact rfl; exact rfl; exact rfl)))
  refine cat (by simp only [strB_size, List.length_append, be8_length]; omega) (ref01_IntP fun h5 e5 => ?_)
  have H := H.ext' e5
  rw [strB_append]
  repeat (first | with_reducible refine nn ?_ | with_reducible refine let_ ?_ | with_reducible refine brSome ?_ | with_reducible refine brF ?_ | with_reducible refine brT ?_ | ((with_reducible apply ldAt H 0); exact rfl; exact rfl) | ((with_reducible apply ldAt0 H 0); exact rfl; exact rfl) | ((with_reducible apply stAt H 0); exact rfl; exact rfl; intro h H) | ((with_reducible apply stAt0 H 0); exact rfl; exact rfl; intro h H) | ((with_reducible apply allocAt H); intro h b H) | ((with_reducible refine ⟨?_, ?_⟩); first | ((with_reducible apply ldAt H 0); exact rfl; exact rfl; exact rfl) | ((with_reducible apply ldAt0 H 0); exact rfl; exact rfl; exact rfl)))
  refine cat (by simp only [strB_size, List.length_append, be8_length]; omega) (ref01_IntP fun h6 e6 => ?_)
  have H := H.ext' e6
  rw [strB_append]
  refine cat (by simp only [strB_size, List.length_append, be8_length]; omega) ?_
  rw [strB_append]
  repeat (first | with_reducible refine nn ?_ | with_reducible refine let_ ?_ | with_reducible refine brSome ?_ | with_reducible refine brF ?_ | with_reducible refine brT ?_ | ((with_reducible apply ldAt H 0); exact rfl; exact rfl) | ((with_reducible apply ldAt0 H 0); exact rfl; exact rfl) | ((with_reducible apply stAt H 0); exact rfl; exact rfl; intro h H) | ((with_reducible apply stAt0 H 0); exact rfl; exact rfl; intro h H) | ((with_reducible apply allocAt H); intro h b H) | ((with_reducible refine ⟨?_, ?_⟩); first | ((with_reducible apply ldAt H 0); exact rfl; exact rfl; exact rfl) | ((with_reducible apply ldAt0 H 0); exact rfl; exact rfl; exact rfl)))
  refine ref01_TextP (by rw [strB_size]; omega) fun h7 e7 => ?_
  have H := H.ext' e7
  rw [strB_data]
  repeat (first | with_reducible refine nn ?_ | with_reducible refine let_ ?_ | with_reducible refine brSome ?_ | with_reducible refine brF ?_ | with_reducible refine brT ?_ | ((with_reducible apply ldAt H 0); exact rfl; exact rfl) | ((with_reducible apply ldAt0 H 0); exact rfl; exact rfl) | ((with_reducible apply stAt H 0); exact rfl; exact rfl; intro h H) | ((with_reducible apply stAt0 H 0); exact rfl; exact rfl; intro h H) | ((with_reducible apply allocAt H); intro h b H) | ((with_reducible refine ⟨?_, ?_⟩); first | ((with_reducible apply ldAt H 0); exact rfl; exact rfl; exact rfl) | ((with_reducible apply ldAt0 H 0); exact rfl; exact rfl; exact rfl)))
  refine cat (by simp only [strB_size, List.length_append, be8_length]; omega) (ref01_TextP (by rw [strB_size]; omega) fun h8 e8 => ?_)
  have H := H.ext' e8
  rw [strB_data, strB_append]
  repeat (first | with_reducible refine nn ?_ | with_reducible refine let_ ?_ | with_reducible refine brSome ?_ | with_reducible refine brF ?_ | with_reducible refine brT ?_ | ((with_reducible apply ldAt H 0); exact rfl; exact rfl) | ((with_reducible apply ldAt0 H 0); exact rfl; exact rfl) | ((with_reducible apply stAt H 0); exact rfl; exact rfl; intro h H) | ((with_reducible apply stAt0 H 0); exact rfl; exact rfl; intro h H) | ((with_reducible apply allocAt H); intro h b H) | ((with_reducible refine ⟨?_, ?_⟩); first | ((with_reducible apply ldAt H 0); exact rfl; exact rfl; exact rfl) | ((with_reducible apply ldAt0 H 0); exact rfl; exact rfl; exact rfl)))
  refine cat (by simp only [strB_size, List.length_append, be8_length]; omega) (ref01_IntP fun h9 e9 => ?_)
  have H := H.ext' e9
  rw [strB_append]
  repeat (first | with_reducible refine nn ?_ | with_reducible refine let_ ?_ | with_reducible refine brSome ?_ | with_reducible refine brF ?_ | with_reducible refine brT ?_ | ((with_reducible apply ldAt H 0); exact rfl; exact rfl) | ((with_reducible apply ldAt0 H 0); exact rfl; exact rfl) | ((with_reducible apply stAt H 0); exact rfl; exact rfl; intro h H) | ((with_reducible apply stAt0 H 0); exact rfl; exact rfl; intro h H) | ((with_reducible apply allocAt H); intro h b H) | ((with_reducible refine ⟨?_, ?_⟩); first | ((with_reducible apply ldAt H 0); exact rfl; exact rfl; exact rfl) | ((with_reducible apply ldAt0 H 0); exact rfl; exact rfl; exact rfl)))
  refine cat (by simp only [strB_size, List.length_append, be8_length]; omega) (ref01_BoolP fun h10 e10 => ?_)
  have H := H.ext' e10
  rw [strB_append]
  refine cat (by simp only [strB_size, List.length_append, be8_length]; omega) ?_
  rw [strB_append]
  have e : be8 k ++ be8 t ++ be8 a ++ be8 st ++ be8 op ++ txt key ++ txt val ++ be8 mo ++ tru y = cmdB ⟨k, t, a, st, op, key, val, mo, y⟩ := by simp [cmdB]
  rw [e]
  refine ldAt H 0 rfl (strB key) rfl ?_
  rw [strB_size]
  refine brD (fun hc => ldAt H 0 rfl (strB val) rfl (hR _ _ H.ext ?_)) fun hc => hR _ _ H.ext ⟨(fun x => by cases x), fun hf => by have h := hf.1; simp only at h; omega⟩
  rw [strB_size, decide_eq_true_eq]
  exact ⟨fun x => ⟨by show key.length ≤ 16; omega, by show val.length ≤ 32; omega⟩, fun hf => by have h := hf.2; simp only at h; omega⟩
def Cmd.kl (c : Cmd) : KL [.int .i64, .int .i64, .int .i64, .int .i64, .int .i64, .str, .str, .int .i64, .bool] := (c.kind, c.tx, c.att, c.stamp, c.op, strB c.key, strB c.value, c.mode, c.yes, ())
def cmd0 : Cmd := ⟨0, 0, 0, 0, 0, [], [], 0, false⟩
theorem wire_whole_Command_ok {k t a st op mo : Int} {key val : ByteArray} {y : Bool} {R : KL [.int .i64, .int .i64, .int .i64, .int .i64, .int .i64, .str, .str, .int .i64, .bool] → Int → Heap → Prop} (H : At h0 h (rdr p ty s bad :: F)) (hs : RdF q l0 s l)
    (h1 : ¬ (bad = false ∧ l = []) → ∀ h', At h0 h' (rdr p ty s bad :: F) → R cmd0.kl 2 h') (h2 : bad = false ∧ l = [] → ∀ h', At h0 h' (rdr p ty s bad :: F) → R (k, t, a, st, op, key, val, mo, y, ()) 0 h') :
    C_wire_whole_api_Command (some ⟨p, 0, none⟩) (k, t, a, st, op, key, val, mo, y, ()) h R := by
  refine A_wire_whole_api_Command ?_
  unfold S_wire_whole_api_Command
  refine allocAt H fun hc1 p1 H => allocAt H fun hc2 p2 H => ?_
  refine word_Done_ok (H.mv 2 1) hs (brB (fun hb => ?_) fun hb => ?_)
  · repeat (first | with_reducible refine nn ?_ | with_reducible refine let_ ?_ | with_reducible refine brSome ?_ | with_reducible refine brF ?_ | with_reducible refine brT ?_ | ((with_reducible apply ldAt H 0); exact rfl; exact rfl) | ((with_reducible apply ldAt0 H 0); exact rfl; exact rfl) | ((with_reducible apply ldAt H 1); exact rfl; exact rfl) | ((with_reducible apply ldAt0 H 1); exact rfl; exact rfl) | ((with_reducible apply ldAt H 2); exact rfl; exact rfl) | ((with_reducible apply ldAt0 H 2); exact rfl; exact rfl) | ((with_reducible apply stAt H 0); exact rfl; exact rfl; intro h H) | ((with_reducible apply stAt0 H 0); exact rfl; exact rfl; intro h H) | ((with_reducible apply stAt H 1); exact rfl; exact rfl; intro h H) | ((with_reducible apply stAt0 H 1); exact rfl; exact rfl; intro h H) | ((with_reducible apply stAt H 2); exact rfl; exact rfl; intro h H) | ((with_reducible apply stAt0 H 2); exact rfl; exact rfl; intro h H) | ((with_reducible apply allocAt H); intro h b H) | ((with_reducible refine ⟨?_, ?_⟩); first | ((with_reducible apply ldAt H 0); exact rfl; exact rfl; exact rfl) | ((with_reducible apply ldAt0 H 0); exact rfl; exact rfl; exact rfl) | ((with_reducible apply ldAt H 1); exact rfl; exact rfl; exact rfl) | ((with_reducible apply ldAt0 H 1); exact rfl; exact rfl; exact rfl) | ((with_reducible apply ldAt H 2); exact rfl; exact rfl; exact rfl) | ((with_reducible apply ldAt0 H 2); exact rfl; exact rfl; exact rfl)))
    refine h1 (fun hx => ?_) _ (H.drop 3)
    rw [hx.1, hx.2] at hb
    cases hb
  · repeat (first | with_reducible refine nn ?_ | with_reducible refine let_ ?_ | with_reducible refine brSome ?_ | with_reducible refine brF ?_ | with_reducible refine brT ?_ | ((with_reducible apply ldAt H 0); exact rfl; exact rfl) | ((with_reducible apply ldAt0 H 0); exact rfl; exact rfl) | ((with_reducible apply ldAt H 1); exact rfl; exact rfl) | ((with_reducible apply ldAt0 H 1); exact rfl; exact rfl) | ((with_reducible apply stAt H 0); exact rfl; exact rfl; intro h H) | ((with_reducible apply stAt0 H 0); exact rfl; exact rfl; intro h H) | ((with_reducible apply stAt H 1); exact rfl; exact rfl; intro h H) | ((with_reducible apply stAt0 H 1); exact rfl; exact rfl; intro h H) | ((with_reducible apply allocAt H); intro h b H) | ((with_reducible refine ⟨?_, ?_⟩); first | ((with_reducible apply ldAt H 0); exact rfl; exact rfl; exact rfl) | ((with_reducible apply ldAt0 H 0); exact rfl; exact rfl; exact rfl) | ((with_reducible apply ldAt H 1); exact rfl; exact rfl; exact rfl) | ((with_reducible apply ldAt0 H 1); exact rfl; exact rfl; exact rfl)))
    refine h2 ?_ _ (H.drop 2)
    cases bad with
    | true => cases hb
    | false => exact ⟨rfl, by simpa using hb⟩
end
end Go.Proofs.Ytnognoiaakiepaa
