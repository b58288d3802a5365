/-
  Layer 14 (chase): the contracts of the program's calls.
-/
import Derived.Test.YtmpekddpehhdnaaKb
namespace Go.Proofs.Ytmpekddpehhdnaa
open Go
open Go.Maps

theorem key2c {a b : Int} (ha : (Lit.int .i64 a).wf = true) (hb : (Lit.int .i64 b).wf = true) : ∃ l, keyOf Try.prog 131 (.agg #[.int .i64 a, .int .i64 b]) = some l := by
  have h1 : Try.prog.keyType 131 = true := by kernel_rfl
  have h2 : Value.formed Try.prog 131 (.agg #[.int .i64 a, .int .i64 b]) = true := by kernel_rfl
  have h3 : ∃ n, Try.prog.types.size + 1 = n + 2 := ⟨Try.prog.types.size - 1, by have : 1 ≤ Try.prog.types.size := of_decide_eq_true (by kernel_rfl); omega⟩
  obtain ⟨n, h3⟩ := h3
  have h4 : Try.prog.cellsOf 131 = 2 := by kernel_rfl
  have h5 : Try.prog.cellsOf 3 = 1 := by kernel_rfl
  refine ⟨.string (keyBytes [.int .i64 a, .int .i64 b]), ?_⟩
  unfold keyOf
  rw [Try.underlying131, h3]
  simp [h1, h2, Value.cells, Program.keyLits, Try.underlying131, Try.underlying3, h4, h5, ha, hb]
def keyC : KeyA Try.prog 131 (Int × Int) := ⟨fun x => .agg #[.int .i64 x.1, .int .i64 x.2], fun x => in64 x.1 ∧ in64 x.2, fun x hx => key2c (wf64 hx.1.1 hx.1.2) (wf64 hx.2.1 hx.2.2), fun x y h => by
  have h : Value.agg #[.int .i64 x.1, .int .i64 x.2] = Value.agg #[.int .i64 y.1, .int .i64 y.2] := h
  simp at h
  exact Prod.ext h.1 h.2⟩
theorem mapCI : MapT Try.prog 118 131 3 := ⟨Try.underlying118, Keyed.of_law (deep_law_laid laidOutT (m := 2) (by omega) (of_decide_eq_true (by kernel_rfl)) (by kernel_rfl) (by rw [Try.underlying131])), Try.underlying3, zv_run (by kernel_rfl)⟩
abbrev MZ := Nat × Nat × (Int × Int → Option Int)
def mapsR (mz : List MZ) : List Res := mz.map fun m => mapR keyC 3 m.1 m.2.1 m.2.2
def tosR (z : List (CN × Sl)) : List Res := z.map fun q => .own q.2 1 (eNum.fl q.1.to)
def SeenRel (C : CF) (mz : List MZ) : Prop := ∀ j, (hj : j < mz.length) → ∀ x a, (mz[j].2.2 (x, a)).getD 0 = if hasN C.N a ∧ (nd C.N a).site = (j : Int) then C.seen x a else 0
def FldAt (h0 h : Heap) (d : Nat) (s k : Nat) (C : CF) (F : List Res) : Prop :=
  ∃ ty sn nq fq vq z mz, z.map Prod.fst = C.N ∧ mz.length = s ∧ (∀ m ∈ mz, m.2.1 ≤ k) ∧ SeenRel C mz ∧ At h0 h (F ++ (fiveL d ty sn nq fq vq (mz.map (·.1)) z C.fl C.vs ++ (mapsR mz ++ tosR z)))
theorem FldAt.mono {h0 h : Heap} {d s k k' : Nat} {C : CF} {F : List Res} (H : FldAt h0 h d s k C F) (hk : k ≤ k') : FldAt h0 h d s k' C F := by
  obtain ⟨ty, sn, nq, fq, vq, z, mz, h1, h2, h3, h4, H⟩ := H
  exact ⟨ty, sn, nq, fq, vq, z, mz, h1, h2, fun m hm => Nat.le_trans (h3 m hm) hk, h4, H⟩
section
variable {h0 h : Heap} {F : List Res} {d s k N : Nat} {C : CF}
theorem FldAt.perm {F' : List Res} (H : FldAt h0 h d s k C F) (p : F.Perm F') : FldAt h0 h d s k C F' := by
  obtain ⟨ty, sn, nq, fq, vq, z, mz, h1, h2, h3, h4, H⟩ := H
  exact ⟨ty, sn, nq, fq, vq, z, mz, h1, h2, h3, h4, H.perm (List.Perm.append_right _ p)⟩
theorem FldAt.ats {h0 h : Heap} (H : FldAt h0 h d s k C F) : At h0 h F := by
  obtain ⟨ty, sn, nq, fq, vq, z, mz, h1, h2, h3, h4, H⟩ := H
  refine ⟨H.ext, fun r hr => H.ok r (List.mem_append_left _ hr), fun r hr => H.lo r (List.mem_append_left _ hr), (List.pairwise_append.1 H.sep).1⟩
/-- What turns the things ahead leaves the field. -/
theorem FldAt.lift {h' : Heap} {F' : List Res} (H : FldAt h0 h d s k C F) (hF : ∀ L, At h0 h (F ++ L) → At h0 h' (F' ++ L)) : FldAt h0 h' d s k C F' := by
  obtain ⟨ty, sn, nq, fq, vq, z, mz, h1, h2, h3, h4, H⟩ := H
  exact ⟨ty, sn, nq, fq, vq, z, mz, h1, h2, h3, h4, hF _ H⟩
theorem chase_Node_ok {id stamp site : Int} {R : Int → Heap → Prop} (H : FldAt h0 h d s k C F) (ho : COk s N C)
    (hR : ∀ h', FldAt h0 h' d s k (kNode s C id stamp site).1 F → R (kNode s C id stamp site).2 h') : C_chase_Field_Node (some ⟨d, 0, none⟩) id stamp site h R := by
  obtain ⟨ty, sn, nq, fq, vq, z, mz, hz, hm, hmk, hsr, H⟩ := H
  have keepF : FldAt h0 h d s k C F := ⟨ty, sn, nq, fq, vq, z, mz, hz, hm, hmk, hsr, H⟩
  have H := H.perm (permIn F _ _)
  have hzl : z.length = C.N.length := by rw [← hz, List.length_map]
  have hl64 := ho.len
  have hsn := H.n 1 rfl
  rw [List.length_map] at hsn
  have hnn := H.n 2 rfl
  refine A_chase_Field_Node ?_
  unfold S_chase_Field_Node
  unfold kNode at hR
  refine join0 (fun h2 => h2 = h ∧ ¬ (id < 0 ∨ stamp < 0 ∨ stamp > 1099511627776 ∨ site < 0 ∨ site ≥ s) ∧ ¬ hasN C.N id ∧ ¬ C.N.length ≥ 64) (fun _ h2 hJ => ?_) ?_
  · obtain ⟨rfl, hr1, hr2, hr3⟩ := hJ
    rw [if_neg hr1, if_neg hr2, if_neg hr3] at hR
    repeat (first | with_reducible refine nn ?_ | with_reducible refine let_ ?_ | with_reducible refine brSome ?_ | with_reducible refine brF ?_ | with_reducible refine brT ?_ | ((with_reducible apply ldAt H 0); exact rfl; exact rfl) | ((with_reducible apply ldAt0 H 0); exact rfl; exact rfl) | ((with_reducible apply ldAt H 1); exact rfl; exact rfl) | ((with_reducible apply ldAt0 H 1); exact rfl; exact rfl) | ((with_reducible apply stAt H 0); exact rfl; exact rfl; intro h H) | ((with_reducible apply stAt0 H 0); exact rfl; exact rfl; intro h H) | ((with_reducible apply stAt H 1); exact rfl; exact rfl; intro h H) | ((with_reducible apply stAt0 H 1); exact rfl; exact rfl; intro h H) | ((with_reducible apply allocAt H); intro h b H) | ((with_reducible refine ⟨?_, ?_⟩); first | ((with_reducible apply ldAt H 0); exact rfl; exact rfl; exact rfl) | ((with_reducible apply ldAt0 H 0); exact rfl; exact rfl; exact rfl) | ((with_reducible apply ldAt H 1); exact rfl; exact rfl; exact rfl) | ((with_reducible apply ldAt0 H 1); exact rfl; exact rfl; exact rfl)))
    have hnil : Own h 1 ⟨none, 0, 0⟩ (eNum.fl []) := Own.nil _ _
    refine app1B (E := eND) TND H 3 rfl 0 rfl (⟨id, stamp, site, 0, []⟩, ⟨none, 0, 0⟩) rfl (by omega) (by omega) fun s3 h H => ?_
    repeat (first | with_reducible refine nn ?_ | with_reducible refine let_ ?_ | with_reducible refine brSome ?_ | with_reducible refine brF ?_ | with_reducible refine brT ?_ | ((with_reducible apply ldAt H 0); exact rfl; exact rfl) | ((with_reducible apply ldAt0 H 0); exact rfl; exact rfl) | ((with_reducible apply ldAt H 1); exact rfl; exact rfl) | ((with_reducible apply ldAt0 H 1); exact rfl; exact rfl) | ((with_reducible apply stAt H 0); exact rfl; exact rfl; intro h H) | ((with_reducible apply stAt0 H 0); exact rfl; exact rfl; intro h H) | ((with_reducible apply stAt H 1); exact rfl; exact rfl; intro h H) | ((with_reducible apply stAt0 H 1); exact rfl; exact rfl; intro h H) | ((with_reducible apply allocAt H); intro h b H) | ((with_reducible refine ⟨?_, ?_⟩); first | ((with_reducible apply ldAt H 0); exact rfl; exact rfl; exact rfl) | ((with_reducible apply ldAt0 H 0); exact rfl; exact rfl; exact rfl) | ((with_reducible apply ldAt H 1); exact rfl; exact rfl; exact rfl) | ((with_reducible apply ldAt0 H 1); exact rfl; exact rfl; exact rfl)))
    refine hR _ ⟨ty, sn, s3, fq, vq, z ++ [(⟨id, stamp, site, 0, []⟩, ⟨none, 0, 0⟩)], mz, by rw [List.map_append, hz]; rfl, hm, hmk, ?_, ?_⟩
    · intro j hj x a
      rw [hsr j hj x a]
      show _ = if hasN (C.N ++ [_]) a ∧ (nd (C.N ++ [_]) a).site = _ then C.seen x a else 0
      rw [nd_app ho.uniq hr2]
      by_cases hai : a = id
      · have hna : ¬ hasN C.N a := by rw [hai]; exact hr2
        rw [if_neg (c := hasN C.N a ∧ (nd C.N a).site = (j : Int)) fun x => hna x.1, (ho.seen x a).2.2 hna]
        exact (ite_self _).symm
      · rw [if_neg (c := a = _) hai]
        have : hasN (C.N ++ [⟨id, stamp, site, 0, []⟩]) a ↔ hasN C.N a := ⟨fun h => (hasN_app.1 h).resolve_right fun e => hai e.symm, fun h => hasN_app.2 (.inl h)⟩
        simp only [this]
    · have H : At h0 h (.own ⟨none, 0, 0⟩ 1 (eNum.fl []) :: (fiveL d ty sn s3 fq vq (mz.map (·.1)) (z ++ [(⟨id, stamp, site, 0, []⟩, ⟨none, 0, 0⟩)]) C.fl C.vs ++ ((mapsR mz ++ tosR z) ++ F))) := H.tail.nil 1
      have H := H.perm (permLast _ _ _ _)
      have H := H.perm (permIn F _ _).symm
      unfold tosR at H ⊢
      rw [List.map_append, ← List.append_assoc (mapsR mz)]
      exact H
  · refine join1 (s1 := .one .bool) (fun (b : Bool) h3 => (b = true ↔ (id < 0 ∨ stamp < 0 ∨ stamp > 1099511627776 ∨ site < 0 ∨ site ≥ s)) ∧ h3 = h) (fun _ (b : Bool) h3 hJ => ?_) ?_
    · obtain ⟨hb, rfl⟩ := hJ
      refine brB (fun hbt => ?_) fun hbf => ?_
      · rw [if_pos (hb.1 hbt)] at hR
        exact hR _ keepF
      · have hr1 : ¬ (id < 0 ∨ stamp < 0 ∨ stamp > 1099511627776 ∨ site < 0 ∨ site ≥ s) := fun x => by rw [hb.2 x] at hbf; exact nomatch hbf
        rw [if_neg hr1] at hR
        refine chase_find_ok H (by omega) (fun hno => ?_) fun q hq hqi e he => ?_
        · rw [hz] at hno
          rw [if_neg hno] at hR
          refine brF ?_
          repeat (first | with_reducible refine nn ?_ | with_reducible refine let_ ?_ | with_reducible refine brSome ?_ | with_reducible refine brF ?_ | with_reducible refine brT ?_ | ((with_reducible apply ldAt H 0); exact rfl; exact rfl) | ((with_reducible apply ldAt0 H 0); exact rfl; exact rfl) | ((with_reducible apply stAt H 0); exact rfl; exact rfl; intro h H) | ((with_reducible apply stAt0 H 0); exact rfl; exact rfl; intro h H) | ((with_reducible apply allocAt H); intro h b H) | ((with_reducible refine ⟨?_, ?_⟩); first | ((with_reducible apply ldAt H 0); exact rfl; exact rfl; exact rfl) | ((with_reducible apply ldAt0 H 0); exact rfl; exact rfl; exact rfl)))
          refine brD (fun h64 => ?_) fun h64 => ?_
          · rw [if_pos (by omega)] at hR
            exact hR _ keepF
          · exact ⟨rfl, hr1, hno, by omega⟩
        · rw [if_pos (by rw [← hz, ← hqi]; exact hasN_z hq)] at hR
          exact brT (hR _ keepF)
    · refine brF (brD (fun h1 => ⟨⟨fun _ => .inl h1, fun _ => rfl⟩, rfl⟩) fun h1 => ?_)
      refine brD (fun h2 => ⟨⟨fun _ => .inr (.inl h2), fun _ => rfl⟩, rfl⟩) fun h2 => ?_
      refine brD (fun h3 => ⟨⟨fun _ => .inr (.inr (.inl h3)), fun _ => rfl⟩, rfl⟩) fun h3 => ?_
      refine brD (fun h4 => ⟨⟨fun _ => .inr (.inr (.inr (.inl h4))), fun _ => rfl⟩, rfl⟩) fun h4 => ?_
      repeat (first | with_reducible refine nn ?_ | with_reducible refine let_ ?_ | with_reducible refine brSome ?_ | with_reducible refine brF ?_ | with_reducible refine brT ?_ | ((with_reducible apply ldAt H 0); exact rfl; exact rfl) | ((with_reducible apply ldAt0 H 0); exact rfl; exact rfl) | ((with_reducible apply stAt H 0); exact rfl; exact rfl; intro h H) | ((with_reducible apply stAt0 H 0); exact rfl; exact rfl; intro h H) | ((with_reducible apply allocAt H); intro h b H) | ((with_reducible refine ⟨?_, ?_⟩); first | ((with_reducible apply ldAt H 0); exact rfl; exact rfl; exact rfl) | ((with_reducible apply ldAt0 H 0); exact rfl; exact rfl; exact rfl)))
      refine ⟨?_, rfl⟩
      rw [decide_eq_true_iff]
      exact ⟨fun x => by omega, fun x => by omega⟩
theorem seen_upd {mz : List MZ} (h : SeenRel C mz) (hu : UniqN C.N) {x : Int} {f : CN → CN} (hf : ∀ n, (f n).id = n.id) (hs : ∀ n, (f n).site = n.site) (hx : hasN C.N x) (fl : List CP) (vs : List Int) : SeenRel ⟨updN C.N x f, fl, vs, C.seen⟩ mz := fun j hj y a => by
  rw [h j hj y a]
  show _ = if hasN (updN C.N x f) a ∧ (nd (updN C.N x f) a).site = _ then C.seen y a else 0
  rw [nd_upd hf hu hx]
  have e : (if a = x then f (nd C.N x) else nd C.N a).site = (nd C.N a).site := by
    split
    · rename_i e; subst e; exact hs _
    · rfl
  rw [e]
  simp only [hasN_upd hf]
theorem zset {z : List (CN × Sl)} (hu : UniqN (z.map Prod.fst)) {q : Nat} (hq : q < z.length) {y : CN × Sl} {g : CN → CN} (hy : y.1 = g z[q].1) : (z.set q y).map Prod.fst = updN (z.map Prod.fst) z[q].1.id g := by
  have h := updN_set hu (k := q) (by rw [List.length_map]; exact hq) g
  rw [List.getElem_map] at h
  rw [h, List.map_set, hy]
theorem map_setS {α β : Type} (f : α → β) (l : List α) {k : Nat} (hk : k < l.length) (y : α) (h : f y = f l[k]) : (l.set k y).map f = l.map f := by
  rw [List.map_set, h]
  refine List.ext_getElem (by simp) fun i h1 h2 => ?_
  rw [List.getElem_set]
  split
  · rename_i e; subst e; rw [List.getElem_map]
  · rfl
theorem tos_at {mz : List MZ} {z : List (CN × Sl)} {q : Nat} (hq : q < z.length) (F : List Res) : ((mapsR mz ++ tosR z) ++ F)[mz.length + q]? = some (.own z[q].2 1 (eNum.fl z[q].1.to)) := by
  have := row_right (X := mapsR mz) (f := fun q : CN × Sl => Res.own q.2 1 (eNum.fl q.1.to)) (l := z) (Y := F) hq
  rw [show (mapsR mz).length = mz.length from List.length_map _] at this
  rw [List.append_assoc]
  exact this
theorem tos_set {mz : List MZ} {z : List (CN × Sl)} {q : Nat} (hq : q < z.length) (F : List Res) (y : CN × Sl) : ((mapsR mz ++ tosR z) ++ F).set (mz.length + q) (.own y.2 1 (eNum.fl y.1.to)) = (mapsR mz ++ tosR (z.set q y)) ++ F := by
  have := row_rightS (X := mapsR mz) (f := fun q : CN × Sl => Res.own q.2 1 (eNum.fl q.1.to)) (l := z) (Y := F) hq y
  rw [show (mapsR mz).length = mz.length from List.length_map _] at this
  rw [List.append_assoc, List.append_assoc]
  exact this
theorem chase_Edge_ok {f t : Int} {R : Int → Heap → Prop} (H : FldAt h0 h d s k C F) (ho : COk s N C)
    (hR : ∀ h', FldAt h0 h' d s k (kEdge C f t).1 F → R (kEdge C f t).2 h') : C_chase_Field_Edge (some ⟨d, 0, none⟩) f t h R := by
  have keepF := H
  obtain ⟨ty, sn, nq, fq, vq, z, mz, hz, hm, hmk, hsr, H⟩ := H
  have H := H.perm (permIn F _ _)
  have hzl : z.length = C.N.length := by rw [← hz, List.length_map]
  have hl64 := ho.len
  have hu : UniqN (z.map Prod.fst) := by rw [hz]; exact ho.uniq
  refine A_chase_Field_Edge ?_
  unfold S_chase_Field_Edge
  unfold kEdge at hR
  refine join1 (s1 := .one .bool) (fun (b : Bool) h3 => (b = true ↔ f = t) ∧ h3 = h) (fun _ (b : Bool) h3 hJ => ?_) (brF ⟨beq_iff_eq, rfl⟩)
  obtain ⟨hb, rfl⟩ := hJ
  refine brB (fun hbt => ?_) fun hbf => ?_
  · rw [if_pos (hb.1 hbt)] at hR; exact hR _ keepF
  have hft : ¬ f = t := fun x => by rw [hb.2 x] at hbf; exact nomatch hbf
  rw [if_neg hft] at hR
  refine chase_find_ok H (by omega) (fun hno => ?_) fun q hq hqi e he => ?_
  · rw [hz] at hno
    rw [if_pos fun x => hno x.1] at hR
    refine join1 (s1 := .one .bool) (fun (b : Bool) h4 => b = true ∧ h4 = h3) (fun _ (b : Bool) h4 hJ => ?_) (brT ⟨rfl, rfl⟩)
    obtain ⟨rfl, rfl⟩ := hJ
    exact brT (hR _ keepF)
  have hf : hasN C.N f := by rw [← hz, ← hqi]; exact hasN_z hq
  refine join1 (s1 := .one .bool) (fun (b : Bool) h4 => (b = true ↔ ¬ hasN C.N t) ∧ h4 = h3) (fun _ (b : Bool) h4 hJ => ?_) ?_
  rotate_left
  · refine brF (chase_find_ok H (by omega) (fun hno => ?_) fun q2 hq2 hqi2 e2 he2 => ?_)
    · rw [hz] at hno
      exact ⟨⟨fun _ => hno, fun _ => rfl⟩, rfl⟩
    · refine ⟨⟨fun x => (by cases x), fun x => absurd ?_ x⟩, rfl⟩
      rw [← hz, ← hqi2]; exact hasN_z hq2
  obtain ⟨hb2, rfl⟩ := hJ
  refine brB (fun hbt => ?_) fun hbf2 => ?_
  · rw [if_pos fun x => hb2.1 hbt x.2] at hR; exact hR _ keepF
  have ht : hasN C.N t := Decidable.byContradiction fun x => by rw [hb2.2 x] at hbf2; exact nomatch hbf2
  rw [if_neg fun x => x ⟨hf, ht⟩] at hR
  have hnk := ho.ns z[q].1 (by rw [← hz]; exact List.mem_map_of_mem (List.getElem_mem hq))
  have htl := ho.tolen (n := z[q].1) (by rw [← hz]; exact List.mem_map_of_mem (List.getElem_mem hq))
  have htos := tos_at (mz := mz) hq F
  have hsu := seen_upd (f := fun n => { n with to := insI n.to t }) hsr ho.uniq (fun _ => rfl) (fun _ => rfl) hf C.fl C.vs
  refine nn ?_
  refine ldEl (j := 4) H 2 rfl he hq z[q].2 rfl ?_
  refine Search_int_ok H (mz.length + q + 5) htos hnk.srt (by omega) ?_
  by_cases hmem : t ∈ z[q].1.to
  · rw [decide_eq_true hmem]
    refine brF (hR _ ⟨ty, sn, nq, fq, vq, z, mz, ?_, hm, hmk, hsu, H.perm (permIn F _ _).symm⟩)
    show z.map Prod.fst = updN C.N f _
    have e2 := zset (y := z[q]) (g := fun n => { n with to := insI n.to t }) hu hq (by unfold insI; rw [if_pos hmem])
    rw [← hz, ← hqi, ← e2, List.set_getElem_self]
  · rw [decide_eq_false hmem]
    refine brT (nn ?_)
    refine ldEl (j := 4) H 2 rfl he hq z[q].2 rfl ?_
    refine Insert_int_ok H (mz.length + q + 5) htos hnk.srt (by omega) (R := _) (fun s' h' H => ?_) fun b h' hc => hc
    refine nn ?_
    refine stEl (E := eND) (j := 4) ({ z[q].1 with to := putI z[q].1.to t }, s') H 2 rfl he hq rfl rfl fun h' H => ?_
    have H : At h0 h' (fiveL d ty sn nq fq vq (mz.map (·.1)) (z.set q ({ z[q].1 with to := putI z[q].1.to t }, s')) C.fl C.vs ++ (((mapsR mz ++ tosR z) ++ F).set (mz.length + q) (.own s' 1 (eNum.fl (putI z[q].1.to t))))) := H
    rw [tos_set hq F ({ z[q].1 with to := putI z[q].1.to t }, s')] at H
    refine hR _ ⟨ty, sn, nq, fq, vq, _, mz, ?_, hm, hmk, hsu, H.perm (permIn F _ _).symm⟩
    show _ = updN C.N f _
    rw [← hz, ← hqi]
    exact zset hu hq (by unfold insI; rw [if_neg hmem])
theorem chase_Begin_ok {id : Int} {R : Int → Int → Heap → Prop} (H : FldAt h0 h d s k C F) (ho : COk s N C) (hN : N ≤ 1000000) (hfl : C.fl.length ≤ 1000000)
    (hR : ∀ h', FldAt h0 h' d s k (kBegin C id).1 F → R (kBegin C id).2.1 (kBegin C id).2.2 h') : C_chase_Field_Begin (some ⟨d, 0, none⟩) id h R := by
  have keepF := H
  obtain ⟨ty, sn, nq, fq, vq, z, mz, hz, hm, hmk, hsr, H⟩ := H
  have H := H.perm (permIn F _ _)
  have hzl : z.length = C.N.length := by rw [← hz, List.length_map]
  have hl64 := ho.len
  have hu : UniqN (z.map Prod.fst) := by rw [hz]; exact ho.uniq
  refine A_chase_Field_Begin ?_
  unfold S_chase_Field_Begin
  unfold kBegin at hR
  refine brF (chase_find_ok H (by omega) (fun hno => ?_) fun q hq hqi e he => ?_)
  · rw [hz] at hno
    rw [if_pos hno] at hR
    exact brT (hR _ keepF)
  have hx : hasN C.N id := by rw [← hz, ← hqi]; exact hasN_z hq
  have hnd : nd C.N id = z[q].1 := by rw [← hz, ← hqi]; exact nd_z hu hq
  rw [if_neg fun x => x hx, hnd] at hR
  have hnm : z[q].1 ∈ C.N := by rw [← hz]; exact List.mem_map_of_mem (List.getElem_mem hq)
  have hnk := ho.ns z[q].1 hnm
  have htl := ho.tolen hnm
  have hr0 := hnk.r0
  have hr1 := hnk.r1
  refine brF (nn ?_)
  refine ldEl (j := 3) H 2 rfl he hq z[q].1.round rfl ?_
  rw [w64 (by omega) (by omega)]
  refine nn ?_
  refine stEl (E := eND) (j := 3) ({ z[q].1 with round := z[q].1.round + 1 }, z[q].2) H 2 rfl he hq rfl rfl fun h' H => ?_
  refine nn ?_
  refine ldElS (E := eND) (j := 1) H 2 rfl he hq z[q].1.stamp rfl ?_
  refine nn ?_
  refine ldElS (E := eND) (j := 3) H 2 rfl he hq (z[q].1.round + 1) rfl ?_
  have hN2 : (z.set q ({ z[q].1 with round := z[q].1.round + 1 }, z[q].2)).map Prod.fst = updN C.N id fun n => { n with round := n.round + 1 } := by
    rw [← hz, ← hqi]
    exact zset hu hq rfl
  have hG : At h0 h' (fiveL d ty sn nq fq vq (mz.map (·.1)) (z.set q ({ z[q].1 with round := z[q].1.round + 1 }, z[q].2)) C.fl C.vs ++ ((mapsR mz ++ tosR z) ++ F)) := H
  refine chase_goes_ok2 (p := ⟨id, z[q].1.stamp, z[q].1.round + 1, 0⟩) (k := q) (y := ({ z[q].1 with round := z[q].1.round + 1 }, z[q].2)) (m := mz.length + q) hG (by rw [List.length_set]; omega) (by rw [hN2]; exact uniq_upd (fun _ => rfl) ho.uniq) (by rw [List.length_set]; exact hq) (by rw [List.getElem_set_self]) he (tos_at hq F)
    (fun t ht => by rw [hN2]; exact (hasN_upd (f := fun n => { n with round := n.round + 1 }) (fun _ => rfl)).2 (hnk.to t ht).1) htl hfl fun h2 fq2 H => ?_
  refine nn ?_
  refine ldElS (E := eND) (j := 3) H 2 rfl he hq (z[q].1.round + 1) rfl ?_
  rw [hN2] at H
  refine hR _ ⟨ty, sn, nq, fq2, vq, _, mz, hN2, hm, hmk, seen_upd (f := fun n => { n with round := n.round + 1 }) hsr ho.uniq (fun _ => rfl) (fun _ => rfl) hx _ _, ?_⟩
  rw [show tosR (z.set q ({ z[q].1 with round := z[q].1.round + 1 }, z[q].2)) = tosR z from map_setS _ z hq _ rfl]
  exact H.perm (permIn F _ _).symm
/-- One probe taken out, or none. -/
theorem chase_takeF_ok {i : Int} {R : KL [.int .i64, .int .i64, .int .i64, .int .i64] → Int → Heap → Prop} (H : FldAt h0 h d s k C F) (hfl : C.fl.length ≤ 1000000)
    (hb : ¬ inFl C i → ∀ h', FldAt h0 h' d s k C F → R (0, 0, 0, 0, ()) 6 h')
    (hg : inFl C i → ∀ h', FldAt h0 h' d s k (kTake C i.toNat) F → R ((pAt C i).start, (pAt C i).stamp, (pAt C i).round, (pAt C i).at_, ()) 0 h') : C_chase_Field_take (some ⟨d, 0, none⟩) i h R := by
  obtain ⟨ty, sn, nq, fq, vq, z, mz, hz, hm, hmk, hsr, H⟩ := H
  have H := H.perm (permIn F _ _)
  refine chase_take_ok H hfl (fun hno h' H => hb hno h' ⟨ty, sn, nq, fq, vq, z, mz, hz, hm, hmk, hsr, H.perm (permIn F _ _).symm⟩) fun j hj hjl h' fq' H => ?_
  have hin : inFl C i := ⟨by omega, by omega⟩
  have h := hg hin h' ⟨ty, sn, nq, fq', vq, z, mz, hz, hm, hmk, hsr, by
    have e : i.toNat = j := by omega
    unfold kTake; rw [e]; exact H.perm (permIn F _ _).symm⟩
  have e : pAt C i = C.fl[j] := by
    unfold pAt
    rw [show i.toNat = j by omega, List.getElem?_eq_getElem hjl]; rfl
  rw [e] at h
  exact h
theorem chase_Drop_ok {i : Int} {R : Int → Heap → Prop} (H : FldAt h0 h d s k C F) (hfl : C.fl.length ≤ 1000000)
    (hR : ∀ h', FldAt h0 h' d s k (kDrop C i).1 F → R (kDrop C i).2 h') : C_chase_Field_Drop (some ⟨d, 0, none⟩) i h R := by
  refine A_chase_Field_Drop ?_
  unfold S_chase_Field_Drop
  unfold kDrop at hR
  have tmp : ∀ {h' h2 : Heap} {C' : CF}, (∀ L, At h0 h' (F ++ L) → At h0 h2 (F ++ L)) → FldAt h0 h' d s k C' F → FldAt h0 h2 d s k C' F := fun hF H => H.lift hF
  refine chase_takeF_ok H hfl (fun hno h' H => ?_) fun hin h' H => ?_
  · rw [if_neg hno] at hR
    obtain ⟨ty, sn, nq, fq, vq, z, mz, hz, hm, hmk, hsr, H⟩ := H
    repeat (first | with_reducible refine nn ?_ | with_reducible refine let_ ?_ | with_reducible refine brSome ?_ | with_reducible refine brF ?_ | with_reducible refine brT ?_ | ((with_reducible apply ldAt H 0); exact rfl; exact rfl) | ((with_reducible apply ldAt0 H 0); exact rfl; exact rfl) | ((with_reducible apply stAt H 0); exact rfl; exact rfl; intro h H) | ((with_reducible apply stAt0 H 0); exact rfl; exact rfl; intro h H) | ((with_reducible apply allocAt H); intro h b H) | ((with_reducible refine ⟨?_, ?_⟩); first | ((with_reducible apply ldAt H 0); exact rfl; exact rfl; exact rfl) | ((with_reducible apply ldAt0 H 0); exact rfl; exact rfl; exact rfl)))
    exact hR _ ⟨ty, sn, nq, fq, vq, z, mz, hz, hm, hmk, hsr, H.tail⟩
  · rw [if_pos hin] at hR
    obtain ⟨ty, sn, nq, fq, vq, z, mz, hz, hm, hmk, hsr, H⟩ := H
    repeat (first | with_reducible refine nn ?_ | with_reducible refine let_ ?_ | with_reducible refine brSome ?_ | with_reducible refine brF ?_ | with_reducible refine brT ?_ | ((with_reducible apply ldAt H 0); exact rfl; exact rfl) | ((with_reducible apply ldAt0 H 0); exact rfl; exact rfl) | ((with_reducible apply stAt H 0); exact rfl; exact rfl; intro h H) | ((with_reducible apply stAt0 H 0); exact rfl; exact rfl; intro h H) | ((with_reducible apply allocAt H); intro h b H) | ((with_reducible refine ⟨?_, ?_⟩); first | ((with_reducible apply ldAt H 0); exact rfl; exact rfl; exact rfl) | ((with_reducible apply ldAt0 H 0); exact rfl; exact rfl; exact rfl)))
    exact hR _ ⟨ty, sn, nq, fq, vq, z, mz, hz, hm, hmk, hsr, H.tail⟩
theorem chase_Double_ok {i : Int} {R : Int → Heap → Prop} (H : FldAt h0 h d s k C F) (hfl : C.fl.length ≤ 1000000)
    (hR : ∀ h', FldAt h0 h' d s k (kDouble C i).1 F → R (kDouble C i).2 h') : C_chase_Field_Double (some ⟨d, 0, none⟩) i h R := by
  have keepF := H
  obtain ⟨ty, sn, nq, fq, vq, z, mz, hz, hm, hmk, hsr, H⟩ := H
  have H := H.perm (permIn F _ _)
  have hfn := H.n 3 rfl
  refine A_chase_Field_Double ?_
  unfold S_chase_Field_Double
  unfold kDouble at hR
  refine join0 (fun h2 => inFl C i ∧ h2 = h) (fun _ h2 hJ => ?_) ?_
  · obtain ⟨hin, rfl⟩ := hJ
    rw [if_pos hin] at hR
    obtain ⟨_, j, rfl, hj, e⟩ := pAt_mem hin
    repeat (first | with_reducible refine nn ?_ | with_reducible refine let_ ?_ | with_reducible refine brSome ?_ | with_reducible refine brF ?_ | with_reducible refine brT ?_ | ((with_reducible apply ldAt H 0); exact rfl; exact rfl) | ((with_reducible apply ldAt0 H 0); exact rfl; exact rfl) | ((with_reducible apply stAt H 0); exact rfl; exact rfl; intro h H) | ((with_reducible apply stAt0 H 0); exact rfl; exact rfl; intro h H) | ((with_reducible apply allocAt H); intro h b H) | ((with_reducible refine ⟨?_, ?_⟩); first | ((with_reducible apply ldAt H 0); exact rfl; exact rfl; exact rfl) | ((with_reducible apply ldAt0 H 0); exact rfl; exact rfl; exact rfl)))
    refine ixAt H 3 rfl j rfl hj fun e2 he => ?_
    repeat (first | with_reducible refine nn ?_ | with_reducible refine let_ ?_ | with_reducible refine brSome ?_ | with_reducible refine brF ?_ | with_reducible refine brT ?_ | ((with_reducible apply ldAt H 0); exact rfl; exact rfl) | ((with_reducible apply ldAt0 H 0); exact rfl; exact rfl) | ((with_reducible apply ldAt H 1); exact rfl; exact rfl) | ((with_reducible apply ldAt0 H 1); exact rfl; exact rfl) | ((with_reducible apply ldAt H 2); exact rfl; exact rfl) | ((with_reducible apply ldAt0 H 2); exact rfl; exact rfl) | ((with_reducible apply ldAt H 3); exact rfl; exact rfl) | ((with_reducible apply ldAt0 H 3); exact rfl; exact rfl) | ((with_reducible apply ldEl H 0); exact rfl; assumption; (case hk => assumption); exact rfl) | ((with_reducible apply ldEl0 H 0); exact rfl; assumption; (case hk => assumption); exact rfl) | ((with_reducible apply ldElS H 0); exact rfl; assumption; (case hk => assumption); exact rfl) | ((with_reducible apply ldElS0 H 0); exact rfl; assumption; (case hk => assumption); exact rfl) | ((with_reducible apply ldEl H 1); exact rfl; assumption; (case hk => assumption); exact rfl) | ((with_reducible apply ldEl0 H 1); exact rfl; assumption; (case hk => assumption); exact rfl) | ((with_reducible apply ldElS H 1); exact rfl; assumption; (case hk => assumption); exact rfl) | ((with_reducible apply ldElS0 H 1); exact rfl; assumption; (case hk => assumption); exact rfl) | ((with_reducible apply ldEl H 2); exact rfl; assumption; (case hk => assumption); exact rfl) | ((with_reducible apply ldEl0 H 2); exact rfl; assumption; (case hk => assumption); exact rfl) | ((with_reducible apply ldElS H 2); exact rfl; assumption; (case hk => assumption); exact rfl) | ((with_reducible apply ldElS0 H 2); exact rfl; assumption; (case hk => assumption); exact rfl) | ((with_reducible apply ldEl H 3); exact rfl; assumption; (case hk => assumption); exact rfl) | ((with_reducible apply ldEl0 H 3); exact rfl; assumption; (case hk => assumption); exact rfl) | ((with_reducible apply ldElS H 3); exact rfl; assumption; (case hk => assumption); exact rfl) | ((with_reducible apply ldElS0 H 3); exact rfl; assumption; (case hk => assumption); exact rfl) | ((with_reducible apply stAt H 0); exact rfl; exact rfl; intro h H) | ((with_reducible apply stAt0 H 0); exact rfl; exact rfl; intro h H) | ((with_reducible apply stAt H 1); exact rfl; exact rfl; intro h H) | ((with_reducible apply stAt0 H 1); exact rfl; exact rfl; intro h H) | ((with_reducible apply stAt H 2); exact rfl; exact rfl; intro h H) | ((with_reducible apply stAt0 H 2); exact rfl; exact rfl; intro h H) | ((with_reducible apply stAt H 3); exact rfl; exact rfl; intro h H) | ((with_reducible apply stAt0 H 3); exact rfl; exact rfl; intro h H) | ((with_reducible apply stElS (E := eCP) ⟨_, _, _, _⟩ H 0); exact rfl; assumption; (case hk => assumption); exact rfl; (first | exact rfl | (dsimp only [eCP, List.set_cons_succ, List.set_cons_zero] <;> exact rfl)); intro h H) | ((with_reducible apply stElS0 (E := eCP) ⟨_, _, _, _⟩ H 0); exact rfl; assumption; (case hk => assumption); (first | exact rfl | (dsimp only [eCP, List.set_cons_succ, List.set_cons_zero] <;> exact rfl)); intro h H) | ((with_reducible apply stEl (E := eCP) ⟨_, _, _, _⟩ H 0); exact rfl; assumption; (case hk => assumption); exact rfl; (first | exact rfl | (dsimp only [eCP, List.set_cons_succ, List.set_cons_zero] <;> exact rfl)); intro h H) | ((with_reducible apply stEl0 (E := eCP) ⟨_, _, _, _⟩ H 0); exact rfl; assumption; (case hk => assumption); (first | exact rfl | (dsimp only [eCP, List.set_cons_succ, List.set_cons_zero] <;> exact rfl)); intro h H) | ((with_reducible apply stElS (E := eCP) ⟨_, _, _, _⟩ H 1); exact rfl; assumption; (case hk => assumption); exact rfl; (first | exact rfl | (dsimp only [eCP, List.set_cons_succ, List.set_cons_zero] <;> exact rfl)); intro h H) | ((with_reducible apply stElS0 (E := eCP) ⟨_, _, _, _⟩ H 1); exact rfl; assumption; (case hk => assumption); (first | exact rfl | (dsimp only [eCP, List.set_cons_succ, List.set_cons_zero] <;> exact rfl)); intro h H) | ((with_reducible apply stEl (E := eCP) ⟨_, _, _, _⟩ H 1); exact rfl; assumption; (case hk => assumption); exact rfl; (first | exact rfl | (dsimp only [eCP, List.set_cons_succ, List.set_cons_zero] <;> exact rfl)); intro h H) | ((with_reducible apply stEl0 (E := eCP) ⟨_, _, _, _⟩ H 1); exact rfl; assumption; (case hk => assumption); (first | exact rfl | (dsimp only [eCP, List.set_cons_succ, List.set_cons_zero] <;> exact rfl)); intro h H) | ((with_reducible apply stElS (E := eCP) ⟨_, _, _, _⟩ H 2); exact rfl; assumption; (case hk => assumption); exact rfl; (first | exact rfl | (dsimp only [eCP, List.set_cons_succ, List.set_cons_zero] <;> exact rfl)); intro h H) | ((with_reducible apply stElS0 (E := eCP) ⟨_, _, _, _⟩ H 2); exact rfl; assumption; (case hk => assumption); (first | exact rfl | (dsimp only [eCP, List.set_cons_succ, List.set_cons_zero] <;> exact rfl)); intro h H) | ((with_reducible apply stEl (E := eCP) ⟨_, _, _, _⟩ H 2); exact rfl; assumption; (case hk => assumption); exact rfl; (first | exact rfl | (dsimp only [eCP, List.set_cons_succ, List.set_cons_zero] <;> exact rfl)); intro h H) | ((with_reducible apply stEl0 (E := eCP) ⟨_, _, _, _⟩ H 2); exact rfl; assumption; (case hk => assumption); (first | exact rfl | (dsimp only [eCP, List.set_cons_succ, List.set_cons_zero] <;> exact rfl)); intro h H) | ((with_reducible apply stElS (E := eCP) ⟨_, _, _, _⟩ H 3); exact rfl; assumption; (case hk => assumption); exact rfl; (first | exact rfl | (dsimp only [eCP, List.set_cons_succ, List.set_cons_zero] <;> exact rfl)); intro h H) | ((with_reducible apply stElS0 (E := eCP) ⟨_, _, _, _⟩ H 3); exact rfl; assumption; (case hk => assumption); (first | exact rfl | (dsimp only [eCP, List.set_cons_succ, List.set_cons_zero] <;> exact rfl)); intro h H) | ((with_reducible apply stEl (E := eCP) ⟨_, _, _, _⟩ H 3); exact rfl; assumption; (case hk => assumption); exact rfl; (first | exact rfl | (dsimp only [eCP, List.set_cons_succ, List.set_cons_zero] <;> exact rfl)); intro h H) | ((with_reducible apply stEl0 (E := eCP) ⟨_, _, _, _⟩ H 3); exact rfl; assumption; (case hk => assumption); (first | exact rfl | (dsimp only [eCP, List.set_cons_succ, List.set_cons_zero] <;> exact rfl)); intro h H) | ((with_reducible apply allocAt H); intro h b H) | ((with_reducible refine ⟨?_, ?_⟩); first | ((with_reducible apply ldAt H 0); exact rfl; exact rfl; exact rfl) | ((with_reducible apply ldAt0 H 0); exact rfl; exact rfl; exact rfl) | ((with_reducible apply ldAt H 1); exact rfl; exact rfl; exact rfl) | ((with_reducible apply ldAt0 H 1); exact rfl; exact rfl; exact rfl) | ((with_reducible apply ldAt H 2); exact rfl; exact rfl; exact rfl) | ((with_reducible apply ldAt0 H 2); exact rfl; exact rfl; exact rfl) | ((with_reducible apply ldAt H 3); exact rfl; exact rfl; exact rfl) | ((with_reducible apply ldAt0 H 3); exact rfl; exact rfl; exact rfl) | ((with_reducible apply ldEl H 0); exact rfl; assumption; (case hk => assumption); exact rfl; exact rfl) | ((with_reducible apply ldEl0 H 0); exact rfl; assumption; (case hk => assumption); exact rfl; exact rfl) | ((with_reducible apply ldElS H 0); exact rfl; assumption; (case hk => assumption); exact rfl; exact rfl) | ((with_reducible apply ldElS0 H 0); exact rfl; assumption; (case hk => assumption); exact rfl; exact rfl) | ((with_reducible apply ldEl H 1); exact rfl; assumption; (case hk => assumption); exact rfl; exact rfl) | ((with_reducible apply ldEl0 H 1); exact rfl; assumption; (case hk => assumption); exact rfl; exact rfl) | ((with_reducible apply ldElS H 1); exact rfl; assumption; (case hk => assumption); exact rfl; exact rfl) | ((with_reducible apply ldElS0 H 1); exact rfl; assumption; (case hk => assumption); exact rfl; exact rfl) | ((with_reducible apply ldEl H 2); exact rfl; assumption; (case hk => assumption); exact rfl; exact rfl) | ((with_reducible apply ldEl0 H 2); exact rfl; assumption; (case hk => assumption); exact rfl; exact rfl) | ((with_reducible apply ldElS H 2); exact rfl; assumption; (case hk => assumption); exact rfl; exact rfl) | ((with_reducible apply ldElS0 H 2); exact rfl; assumption; (case hk => assumption); exact rfl; exact rfl) | ((with_reducible apply ldEl H 3); exact rfl; assumption; (case hk => assumption); exact rfl; exact rfl) | ((with_reducible apply ldEl0 H 3); exact rfl; assumption; (case hk => assumption); exact rfl; exact rfl) | ((with_reducible apply ldElS H 3); exact rfl; assumption; (case hk => assumption); exact rfl; exact rfl) | ((with_reducible apply ldElS0 H 3); exact rfl; assumption; (case hk => assumption); exact rfl; exact rfl)))
    refine app1B (E := eCP) TCP H 4 rfl 0 rfl C.fl[j] rfl (by omega) (by omega) fun s3 h H => ?_
    repeat (first | with_reducible refine nn ?_ | with_reducible refine let_ ?_ | with_reducible refine brSome ?_ | with_reducible refine brF ?_ | with_reducible refine brT ?_ | ((with_reducible apply ldAt H 0); exact rfl; exact rfl) | ((with_reducible apply ldAt0 H 0); exact rfl; exact rfl) | ((with_reducible apply ldAt H 1); exact rfl; exact rfl) | ((with_reducible apply ldAt0 H 1); exact rfl; exact rfl) | ((with_reducible apply stAt H 0); exact rfl; exact rfl; intro h H) | ((with_reducible apply stAt0 H 0); exact rfl; exact rfl; intro h H) | ((with_reducible apply stAt H 1); exact rfl; exact rfl; intro h H) | ((with_reducible apply stAt0 H 1); exact rfl; exact rfl; intro h H) | ((with_reducible apply allocAt H); intro h b H) | ((with_reducible refine ⟨?_, ?_⟩); first | ((with_reducible apply ldAt H 0); exact rfl; exact rfl; exact rfl) | ((with_reducible apply ldAt0 H 0); exact rfl; exact rfl; exact rfl) | ((with_reducible apply ldAt H 1); exact rfl; exact rfl; exact rfl) | ((with_reducible apply ldAt0 H 1); exact rfl; exact rfl; exact rfl)))
    rw [e] at hR
    have H : At h0 h (fiveL d ty sn nq s3 vq (mz.map (·.1)) z (C.fl ++ [C.fl[j]]) C.vs ++ ((mapsR mz ++ tosR z) ++ F)) := H.tail
    exact hR _ ⟨ty, sn, nq, s3, vq, z, mz, hz, hm, hmk, hsr, H.perm (permIn F _ _).symm⟩
  · refine brF (brD (fun h1 => ?_) fun h1 => ?_)
    · rw [if_neg fun x => by have := x.1; omega] at hR; exact hR _ keepF
    · repeat (first | with_reducible refine nn ?_ | with_reducible refine let_ ?_ | with_reducible refine brSome ?_ | with_reducible refine brF ?_ | with_reducible refine brT ?_ | ((with_reducible apply ldAt H 0); exact rfl; exact rfl) | ((with_reducible apply ldAt0 H 0); exact rfl; exact rfl) | ((with_reducible apply stAt H 0); exact rfl; exact rfl; intro h H) | ((with_reducible apply stAt0 H 0); exact rfl; exact rfl; intro h H) | ((with_reducible apply allocAt H); intro h b H) | ((with_reducible refine ⟨?_, ?_⟩); first | ((with_reducible apply ldAt H 0); exact rfl; exact rfl; exact rfl) | ((with_reducible apply ldAt0 H 0); exact rfl; exact rfl; exact rfl)))
      refine brD (fun h2 => ?_) fun h2 => ?_
      · rw [if_neg fun x => by have := x.2; omega] at hR; exact hR _ keepF
      · exact ⟨⟨by omega, by omega⟩, rfl⟩
theorem permOut {α : Type} (r : α) (F A B : List α) : (r :: (A ++ (B ++ F))).Perm ((r :: F) ++ (A ++ B)) := List.Perm.cons _ (permIn F A B).symm
theorem chase_Flight_ok {R : Sl → Heap → Prop} (H : FldAt h0 h d s k C F) (hfl : C.fl.length ≤ 1000000)
    (hR : ∀ r h', FldAt h0 h' d s k C (.own r 4 (eCP.fl C.fl) :: F) → R r h') : C_chase_Field_Flight (some ⟨d, 0, none⟩) h R := by
  obtain ⟨ty, sn, nq, fq, vq, z, mz, hz, hm, hmk, hsr, H⟩ := H
  have H := H.perm (permIn F _ _)
  refine A_chase_Field_Flight ?_
  unfold S_chase_Field_Flight
  refine brF ?_
  repeat (first | with_reducible refine nn ?_ | with_reducible refine let_ ?_ | with_reducible refine brSome ?_ | with_reducible refine brF ?_ | with_reducible refine brT ?_ | ((with_reducible apply ldAt H 0); exact rfl; exact rfl) | ((with_reducible apply ldAt0 H 0); exact rfl; exact rfl) | ((with_reducible apply stAt H 0); exact rfl; exact rfl; intro h H) | ((with_reducible apply stAt0 H 0); exact rfl; exact rfl; intro h H) | ((with_reducible apply allocAt H); intro h b H) | ((with_reducible refine ⟨?_, ?_⟩); first | ((with_reducible apply ldAt H 0); exact rfl; exact rfl; exact rfl) | ((with_reducible apply ldAt0 H 0); exact rfl; exact rfl; exact rfl)))
  refine Clone_cp_ok (n := 3) H rfl (by omega) fun r h' H => ?_
  exact hR r h' ⟨ty, sn, nq, fq, vq, z, mz, hz, hm, hmk, hsr, H.perm (permOut ..)⟩
theorem COk.vlen (ho : COk s N C) : C.vs.length ≤ 64 := by
  have := pigeon C.vs (C.N.map (·.id)) (srtI_nodup ho.vs.1) fun t ht => by
    obtain ⟨m, hm, e⟩ := ho.vs.2 t ht
    exact List.mem_map.2 ⟨m, hm, e⟩
  rw [List.length_map] at this
  have := ho.len
  omega
theorem chase_Victims_ok {R : Sl → Heap → Prop} (H : FldAt h0 h d s k C F) (ho : COk s N C)
    (hR : ∀ r h', FldAt h0 h' d s k C (.own r 1 (eNum.fl C.vs) :: F) → R r h') : C_chase_Field_Victims (some ⟨d, 0, none⟩) h R := by
  have hvl := ho.vlen
  obtain ⟨ty, sn, nq, fq, vq, z, mz, hz, hm, hmk, hsr, H⟩ := H
  have H := H.perm (permIn F _ _)
  refine A_chase_Field_Victims ?_
  unfold S_chase_Field_Victims
  refine brF ?_
  repeat (first | with_reducible refine nn ?_ | with_reducible refine let_ ?_ | with_reducible refine brSome ?_ | with_reducible refine brF ?_ | with_reducible refine brT ?_ | ((with_reducible apply ldAt H 0); exact rfl; exact rfl) | ((with_reducible apply ldAt0 H 0); exact rfl; exact rfl) | ((with_reducible apply stAt H 0); exact rfl; exact rfl; intro h H) | ((with_reducible apply stAt0 H 0); exact rfl; exact rfl; intro h H) | ((with_reducible apply allocAt H); intro h b H) | ((with_reducible refine ⟨?_, ?_⟩); first | ((with_reducible apply ldAt H 0); exact rfl; exact rfl; exact rfl) | ((with_reducible apply ldAt0 H 0); exact rfl; exact rfl; exact rfl)))
  refine Clone_int_ok (n := 4) H rfl (by omega) fun r h' H => ?_
  exact hR r h' ⟨ty, sn, nq, fq, vq, z, mz, hz, hm, hmk, hsr, H.perm (permOut ..)⟩
theorem chase_New_ok {sites : Int} {R : Option Addr → Heap → Prop} (H : At h0 h F) (hb : (sites < 1 ∨ sites > 8) → R none h)
    (hR : ∀ s : Nat, sites = s → 1 ≤ s → s ≤ 8 → ∀ h' d, FldAt h0 h' d s 0 kNew F → R (some ⟨d, 0, none⟩) h') : C_chase_New sites h R := by
  refine A_chase_New ?_
  unfold S_chase_New
  refine join1 (s1 := .one .bool) (fun (b : Bool) h3 => (b = true ↔ (sites < 1 ∨ sites > 8)) ∧ h3 = h) (fun _ (b : Bool) h3 hJ => ?_) ?_
  rotate_left
  · refine brD (fun h1 => ⟨⟨fun _ => .inl h1, fun _ => rfl⟩, rfl⟩) fun h1 => ⟨?_, rfl⟩
    rw [decide_eq_true_iff]
    exact ⟨fun x => .inr x, fun x => by omega⟩
  obtain ⟨hbi, rfl⟩ := hJ
  refine brB (fun hbt => hb (hbi.1 hbt)) fun hbf => ?_
  have hns : ¬ (sites < 1 ∨ sites > 8) := fun x => by rw [hbi.2 x] at hbf; exact nomatch hbf
  obtain ⟨s, rfl⟩ : ∃ s : Nat, sites = s := ⟨sites.toNat, by omega⟩
  refine allocAt (cs := [.slice none 0 0, .slice none 0 0, .slice none 0 0, .slice none 0 0]) ((((H.nil 1).nil 4).nil 5).nil 1) fun h1 d H => ?_
  refine loop1 (s1 := .one (.int .i64)) (fun (x : Int) h2 => ∃ (j : Nat) (sn : Sl) (mz : List MZ), x = j ∧ j ≤ s ∧ mz.length = j ∧ (∀ m ∈ mz, m.2.1 = 0 ∧ m.2.2 = fun _ => none) ∧ At h0 h2 (fiveL d 117 sn ⟨none, 0, 0⟩ ⟨none, 0, 0⟩ ⟨none, 0, 0⟩ (mz.map (·.1)) [] [] [] ++ (mapsR mz ++ F))) (fun (x : Int) _ => (s - x).toNat)
    ⟨0, ⟨none, 0, 0⟩, [], rfl, Nat.zero_le _, rfl, (fun m hm => by cases hm), H⟩ fun _ (x : Int) h2 hI => ?_
  obtain ⟨j, sn, mz, rfl, hj, hml, hme, H⟩ := hI
  refine brD (fun hc => ?_) fun hc => ?_
  · repeat (first | with_reducible refine nn ?_ | with_reducible refine let_ ?_ | with_reducible refine brSome ?_ | with_reducible refine brF ?_ | with_reducible refine brT ?_ | ((with_reducible apply ldAt H 0); exact rfl; exact rfl) | ((with_reducible apply ldAt0 H 0); exact rfl; exact rfl) | ((with_reducible apply stAt H 0); exact rfl; exact rfl; intro h H) | ((with_reducible apply stAt0 H 0); exact rfl; exact rfl; intro h H) | ((with_reducible refine ⟨?_, ?_⟩); first | ((with_reducible apply ldAt H 0); exact rfl; exact rfl; exact rfl) | ((with_reducible apply ldAt0 H 0); exact rfl; exact rfl; exact rfl)))
    refine mkMap (A := keyC) (e := 3) H fun h3 m H => ?_
    refine allocAt (cs := [.map (some m)]) H fun h4 b H => ?_
    refine app1B (E := eMp) TMp H 3 rfl 0 rfl m rfl (by rw [List.length_map]; omega) (by rw [List.length_map]; omega) fun s3 h H => ?_
    repeat (first | with_reducible refine nn ?_ | with_reducible refine let_ ?_ | with_reducible refine brSome ?_ | with_reducible refine brF ?_ | with_reducible refine brT ?_ | ((with_reducible apply ldAt H 0); exact rfl; exact rfl) | ((with_reducible apply ldAt0 H 0); exact rfl; exact rfl) | ((with_reducible apply ldAt H 1); exact rfl; exact rfl) | ((with_reducible apply ldAt0 H 1); exact rfl; exact rfl) | ((with_reducible apply ldAt H 2); exact rfl; exact rfl) | ((with_reducible apply ldAt0 H 2); exact rfl; exact rfl) | ((with_reducible apply stAt H 0); exact rfl; exact rfl; intro h H) | ((with_reducible apply stAt0 H 0); exact rfl; exact rfl; intro h H) | ((with_reducible apply stAt H 1); exact rfl; exact rfl; intro h H) | ((with_reducible apply stAt0 H 1); exact rfl; exact rfl; intro h H) | ((with_reducible apply stAt H 2); exact rfl; exact rfl; intro h H) | ((with_reducible apply stAt0 H 2); exact rfl; exact rfl; intro h H) | ((with_reducible apply allocAt H); intro h b H) | ((with_reducible refine ⟨?_, ?_⟩); first | ((with_reducible apply ldAt H 0); exact rfl; exact rfl; exact rfl) | ((with_reducible apply ldAt0 H 0); exact rfl; exact rfl; exact rfl) | ((with_reducible apply ldAt H 1); exact rfl; exact rfl; exact rfl) | ((with_reducible apply ldAt0 H 1); exact rfl; exact rfl; exact rfl) | ((with_reducible apply ldAt H 2); exact rfl; exact rfl; exact rfl) | ((with_reducible apply ldAt0 H 2); exact rfl; exact rfl; exact rfl)))
    rw [w64 (by omega) (by omega)]
    refine ⟨⟨j + 1, s3, mz ++ [(m, 0, fun _ => none)], by omega, by omega, by rw [List.length_append, List.length_singleton]; omega, fun q hq => ?_, ?_⟩, by omega⟩
    · rcases List.mem_append.1 hq with hq | hq
      · exact hme q hq
      · rw [List.mem_singleton.1 hq]; exact ⟨rfl, rfl⟩
    · have H : At h0 h (mapR keyC 3 m 0 (fun _ => none) :: (fiveL d 117 s3 ⟨none, 0, 0⟩ ⟨none, 0, 0⟩ ⟨none, 0, 0⟩ (mz.map (·.1) ++ [m]) [] [] [] ++ (mapsR mz ++ F))) := H.tail
      have H := H.perm (permLast _ _ _ _)
      rw [List.map_append]
      unfold mapsR at H ⊢
      rw [List.map_append]
      exact H
  · have hjs : j = s := by omega
    subst hjs
    refine hR j rfl (by omega) (by omega) h2 d ⟨117, sn, ⟨none, 0, 0⟩, ⟨none, 0, 0⟩, ⟨none, 0, 0⟩, [], mz, rfl, hml, fun m hm => by rw [(hme m hm).1]; exact Nat.le_refl _, fun q hq x a => ?_, ?_⟩
    · rw [(hme _ (List.getElem_mem hq)).2]
      split <;> rfl
    · rw [show tosR [] = [] from rfl, List.append_nil]
      exact H.perm (permIn F _ _).symm
theorem maps_at {mz : List MZ} {j : Nat} (hj : j < mz.length) (Y : List Res) : (mapsR mz ++ Y)[j]? = some (mapR keyC 3 mz[j].1 mz[j].2.1 mz[j].2.2) := row_left (f := fun m : MZ => mapR keyC 3 m.1 m.2.1 m.2.2) hj
theorem maps_set {mz : List MZ} {j : Nat} (hj : j < mz.length) (Y : List Res) (y : MZ) : (mapsR mz ++ Y).set j (mapR keyC 3 y.1 y.2.1 y.2.2) = mapsR (mz.set j y) ++ Y := row_leftS (f := fun m : MZ => mapR keyC 3 m.1 m.2.1 m.2.2) hj y
set_option maxHeartbeats 1600000 in
theorem chase_Deliver_ok {i : Int} {R : Int → Bool → Int → Heap → Prop} (H : FldAt h0 h d s k C F) (ho : COk s N C) (hN : N ≤ 1000000) (hk : k ≤ 1000000000) (hfl : C.fl.length ≤ 900000)
    (hR : ∀ h', FldAt h0 h' d s (k + 1) (kDeliver C i).1 F → R (kDeliver C i).2.1 (kDeliver C i).2.2.1 (kDeliver C i).2.2.2 h') : C_chase_Field_Deliver (some ⟨d, 0, none⟩) i h R := by
  refine A_chase_Field_Deliver ?_
  unfold S_chase_Field_Deliver
  refine chase_takeF_ok H (by omega) (fun hno h' H => ?_) fun hin h' H => ?_
  · unfold kDeliver at hR
    rw [if_neg hno] at hR
    obtain ⟨ty, sn, nq, fq, vq, z, mz, hz, hm, hmk, hsr, H⟩ := H.mono (Nat.le_succ k)
    repeat (first | with_reducible refine nn ?_ | with_reducible refine let_ ?_ | with_reducible refine brSome ?_ | with_reducible refine brF ?_ | with_reducible refine brT ?_ | ((with_reducible apply ldAt H 0); exact rfl; exact rfl) | ((with_reducible apply ldAt0 H 0); exact rfl; exact rfl) | ((with_reducible apply stAt H 0); exact rfl; exact rfl; intro h H) | ((with_reducible apply stAt0 H 0); exact rfl; exact rfl; intro h H) | ((with_reducible apply allocAt H); intro h b H) | ((with_reducible refine ⟨?_, ?_⟩); first | ((with_reducible apply ldAt H 0); exact rfl; exact rfl; exact rfl) | ((with_reducible apply ldAt0 H 0); exact rfl; exact rfl; exact rfl)))
    exact brY rfl (hR _ ⟨ty, sn, nq, fq, vq, z, mz, hz, hm, hmk, hsr, H.tail⟩)
  have hp := ho.fls _ (pAt_mem hin).1
  have ho1 := ho.take i.toNat
  have htl := take_len C i.toNat
  unfold kDeliver at hR
  rw [if_pos hin] at hR
  have hp1 : FlOk (kTake C i.toNat) (pAt C i) := hp.grow (.refl _)
  generalize kTake C i.toNat = D at *
  generalize pAt C i = p at *
  clear hin
  have hvl := ho1.vlen
  obtain ⟨ty, sn, nq, fq, vq, z, mz, hz, hm, hmk, hsr, H⟩ := H
  have H := H.perm (permIn F _ _)
  have hzl : z.length = D.N.length := by rw [← hz, List.length_map]
  have hl64 := ho1.len
  have hu : UniqN (z.map Prod.fst) := by rw [hz]; exact ho1.uniq
  refine allocAt (cs := [.int .i64 0, .int .i64 0, .int .i64 0, .int .i64 0]) H fun h b1 H => ?_
  repeat (first | with_reducible refine nn ?_ | with_reducible refine let_ ?_ | with_reducible refine brSome ?_ | with_reducible refine brF ?_ | with_reducible refine brT ?_ | ((with_reducible apply ldAt H 0); exact rfl; exact rfl) | ((with_reducible apply ldAt0 H 0); exact rfl; exact rfl) | ((with_reducible apply stAt H 0); exact rfl; exact rfl; intro h H) | ((with_reducible apply stAt0 H 0); exact rfl; exact rfl; intro h H) | ((with_reducible refine ⟨?_, ?_⟩); first | ((with_reducible apply ldAt H 0); exact rfl; exact rfl; exact rfl) | ((with_reducible apply ldAt0 H 0); exact rfl; exact rfl; exact rfl)))
  refine brN rfl ?_
  repeat (first | with_reducible refine nn ?_ | with_reducible refine let_ ?_ | with_reducible refine brSome ?_ | with_reducible refine brF ?_ | with_reducible refine brT ?_ | ((with_reducible apply ldAt H 0); exact rfl; exact rfl) | ((with_reducible apply ldAt0 H 0); exact rfl; exact rfl) | ((with_reducible apply stAt H 0); exact rfl; exact rfl; intro h H) | ((with_reducible apply stAt0 H 0); exact rfl; exact rfl; intro h H) | ((with_reducible refine ⟨?_, ?_⟩); first | ((with_reducible apply ldAt H 0); exact rfl; exact rfl; exact rfl) | ((with_reducible apply ldAt0 H 0); exact rfl; exact rfl; exact rfl)))
  have H : At h0 _ (fiveL d ty sn nq fq vq (mz.map (·.1)) z D.fl D.vs ++ (.blk b1 37 [.int .i64 p.start, .int .i64 p.stamp, .int .i64 p.round, .int .i64 p.at_] :: ((mapsR mz ++ tosR z) ++ F))) := H.mv 1 5
  unfold kDlv at hR
  refine br beq_iff_eq (fun hself => ?_) fun hself => ?_
  · rw [if_pos hself] at hR
    refine ldAt0 H 5 rfl p.start rfl ?_
    refine chase_tell_ok H ho1.vs.1 (by omega) fun h2 vq2 H => ?_
    refine ldAt0 H 5 rfl p.start rfl ?_
    have H : At h0 h2 (fiveL d ty sn nq fq vq2 (mz.map (·.1)) z D.fl (insI D.vs p.start) ++ ((mapsR mz ++ tosR z) ++ F)) := H.del 5
    exact hR _ ⟨ty, sn, nq, fq, vq2, z, mz, hz, hm, fun m hm => Nat.le_succ_of_le (hmk m hm), hsr, H.perm (permIn F _ _).symm⟩
  rw [if_neg hself] at hR
  refine ldAt (j := 3) H 5 rfl p.at_ rfl ?_
  refine chase_find_ok H (by omega) (fun hno => absurd (hz ▸ hp1.at_) hno) fun q hq hqi e he => ?_
  have hnd : nd D.N p.at_ = z[q].1 := by rw [← hz, ← hqi]; exact nd_z hu hq
  rw [hnd] at hR
  have hnm : z[q].1 ∈ D.N := by rw [← hz]; exact List.mem_map_of_mem (List.getElem_mem hq)
  have hnk := ho1.ns z[q].1 hnm
  have htl2 := ho1.tolen hnm
  have hsi0 := hnk.si0
  have hsi1 := hnk.si1
  obtain ⟨j, hj⟩ : ∃ j : Nat, z[q].1.site = j := ⟨z[q].1.site.toNat, by omega⟩
  have hjm : j < mz.length := by omega
  have hse := hsr j hjm p.start p.at_
  rw [if_pos ⟨hp1.at_, by rw [hnd]; exact hj⟩] at hse
  have H : At h0 _ (.blk b1 37 [.int .i64 p.start, .int .i64 p.stamp, .int .i64 p.round, .int .i64 p.at_] :: (fiveL d ty sn nq fq vq (mz.map (·.1)) z D.fl D.vs ++ ((mapsR mz ++ tosR z) ++ F))) := H.mv 5 1
  refine nn ?_
  repeat (first | with_reducible refine nn ?_ | with_reducible refine let_ ?_ | with_reducible refine brSome ?_ | with_reducible refine brF ?_ | with_reducible refine brT ?_ | ((with_reducible apply ldAt H 0); exact rfl; exact rfl) | ((with_reducible apply ldAt0 H 0); exact rfl; exact rfl) | ((with_reducible apply ldAt H 1); exact rfl; exact rfl) | ((with_reducible apply ldAt0 H 1); exact rfl; exact rfl) | ((with_reducible apply stAt H 0); exact rfl; exact rfl; intro h H) | ((with_reducible apply stAt0 H 0); exact rfl; exact rfl; intro h H) | ((with_reducible apply stAt H 1); exact rfl; exact rfl; intro h H) | ((with_reducible apply stAt0 H 1); exact rfl; exact rfl; intro h H) | ((with_reducible refine ⟨?_, ?_⟩); first | ((with_reducible apply ldAt H 0); exact rfl; exact rfl; exact rfl) | ((with_reducible apply ldAt0 H 0); exact rfl; exact rfl; exact rfl) | ((with_reducible apply ldAt H 1); exact rfl; exact rfl; exact rfl) | ((with_reducible apply ldAt0 H 1); exact rfl; exact rfl; exact rfl)))
  refine ldEl (j := 2) H 3 rfl he hq z[q].1.site rfl ?_
  have hjm2 : j < (mz.map (·.1)).length := by rw [List.length_map]; exact hjm
  refine ixAt H 2 rfl j hj hjm2 fun e2 he2 => ?_
  refine ldEl0 (E := eMp) H 2 rfl he2 hjm2 (some (mz.map (·.1))[j]) rfl ?_
  repeat (first | with_reducible refine nn ?_ | with_reducible refine let_ ?_ | with_reducible refine brSome ?_ | with_reducible refine brF ?_ | with_reducible refine brT ?_ | ((with_reducible apply ldAt H 0); exact rfl; exact rfl) | ((with_reducible apply ldAt0 H 0); exact rfl; exact rfl) | ((with_reducible apply stAt H 0); exact rfl; exact rfl; intro h H) | ((with_reducible apply stAt0 H 0); exact rfl; exact rfl; intro h H) | ((with_reducible refine ⟨?_, ?_⟩); first | ((with_reducible apply ldAt H 0); exact rfl; exact rfl; exact rfl) | ((with_reducible apply ldAt0 H 0); exact rfl; exact rfl; exact rfl)))
  refine allocAt (cs := [.int .i64 0, .int .i64 0]) H fun h3 b2 H => ?_
  refine ⟨ldAt0 H 2 rfl _ rfl rfl, ?_⟩
  refine ⟨ldEl (j := 2) H 4 rfl he hq z[q].1.site rfl rfl, ?_⟩
  refine ⟨ldEl0 (E := eMp) H 3 rfl he2 hjm2 (some (mz.map (·.1))[j]) rfl rfl, ?_⟩
  refine ⟨ldAt0 H 1 rfl _ rfl rfl, ldAt (j := 3) H 1 rfl _ rfl rfl, ?_⟩
  repeat (first | with_reducible refine nn ?_ | with_reducible refine let_ ?_ | with_reducible refine brSome ?_ | with_reducible refine brF ?_ | with_reducible refine brT ?_ | ((with_reducible apply ldAt H 0); exact rfl; exact rfl) | ((with_reducible apply ldAt0 H 0); exact rfl; exact rfl) | ((with_reducible apply ldAt H 1); exact rfl; exact rfl) | ((with_reducible apply ldAt0 H 1); exact rfl; exact rfl) | ((with_reducible apply stAt H 0); exact rfl; exact rfl; intro h H) | ((with_reducible apply stAt0 H 0); exact rfl; exact rfl; intro h H) | ((with_reducible apply stAt H 1); exact rfl; exact rfl; intro h H) | ((with_reducible apply stAt0 H 1); exact rfl; exact rfl; intro h H) | ((with_reducible refine ⟨?_, ?_⟩); first | ((with_reducible apply ldAt H 0); exact rfl; exact rfl; exact rfl) | ((with_reducible apply ldAt0 H 0); exact rfl; exact rfl; exact rfl) | ((with_reducible apply ldAt H 1); exact rfl; exact rfl; exact rfl) | ((with_reducible apply ldAt0 H 1); exact rfl; exact rfl; exact rfl)))
  have H : At h0 h (.blk b2 131 [.int .i64 p.start, .int .i64 p.at_] :: .blk b1 37 [.int .i64 p.start, .int .i64 p.stamp, .int .i64 p.round, .int .i64 p.at_] :: (fiveL d ty sn nq fq vq (mz.map (·.1)) z D.fl D.vs ++ (mapsR mz ++ (tosR z ++ F)))) := by rw [List.append_assoc] at H; exact H
  have hmp := maps_at hjm (tosR z ++ F)
  have hst := (ho1.ndOk hp1.st)
  have hstid := (nd_mem hp1.st).2
  have hatid := (nd_mem hp1.at_).2
  have hat := (ho1.ndOk hp1.at_)
  have i1 : in64 p.start := ⟨by have := hst.id; omega, by have := hst.id1; omega⟩
  have i2 : in64 p.at_ := ⟨by have := hat.id; omega, by have := hat.id1; omega⟩
  have hr1 := hp1.r1
  have hr2 := hp1.r2
  have hr3 := hst.r1
  rw [List.getElem_map]
  refine lookM (A := keyC) mapCI H (j + 7) hmp (p.start, p.at_) ⟨i1, i2⟩ rfl ?_
  rw [hse]
  repeat (first | with_reducible refine nn ?_ | with_reducible refine let_ ?_ | with_reducible refine brSome ?_ | with_reducible refine brF ?_ | with_reducible refine brT ?_ | ((with_reducible apply ldAt H 0); exact rfl; exact rfl) | ((with_reducible apply ldAt0 H 0); exact rfl; exact rfl) | ((with_reducible apply ldAt H 1); exact rfl; exact rfl) | ((with_reducible apply ldAt0 H 1); exact rfl; exact rfl) | ((with_reducible apply stAt H 0); exact rfl; exact rfl; intro h H) | ((with_reducible apply stAt0 H 0); exact rfl; exact rfl; intro h H) | ((with_reducible apply stAt H 1); exact rfl; exact rfl; intro h H) | ((with_reducible apply stAt0 H 1); exact rfl; exact rfl; intro h H) | ((with_reducible refine ⟨?_, ?_⟩); first | ((with_reducible apply ldAt H 0); exact rfl; exact rfl; exact rfl) | ((with_reducible apply ldAt0 H 0); exact rfl; exact rfl; exact rfl) | ((with_reducible apply ldAt H 1); exact rfl; exact rfl; exact rfl) | ((with_reducible apply ldAt0 H 1); exact rfl; exact rfl; exact rfl)))
  refine brD (fun hlt => ?_) fun hge => ?_
  · rw [if_pos hlt] at hR
    repeat (first | with_reducible refine nn ?_ | with_reducible refine let_ ?_ | with_reducible refine brSome ?_ | with_reducible refine brF ?_ | with_reducible refine brT ?_ | ((with_reducible apply ldAt H 0); exact rfl; exact rfl) | ((with_reducible apply ldAt0 H 0); exact rfl; exact rfl) | ((with_reducible apply ldAt H 1); exact rfl; exact rfl) | ((with_reducible apply ldAt0 H 1); exact rfl; exact rfl) | ((with_reducible apply stAt H 0); exact rfl; exact rfl; intro h H) | ((with_reducible apply stAt0 H 0); exact rfl; exact rfl; intro h H) | ((with_reducible apply stAt H 1); exact rfl; exact rfl; intro h H) | ((with_reducible apply stAt0 H 1); exact rfl; exact rfl; intro h H) | ((with_reducible refine ⟨?_, ?_⟩); first | ((with_reducible apply ldAt H 0); exact rfl; exact rfl; exact rfl) | ((with_reducible apply ldAt0 H 0); exact rfl; exact rfl; exact rfl) | ((with_reducible apply ldAt H 1); exact rfl; exact rfl; exact rfl) | ((with_reducible apply ldAt0 H 1); exact rfl; exact rfl; exact rfl)))
    refine updM (A := keyC) mapCI H (j + 7) hmp (by have := hmk _ (List.getElem_mem hjm); omega) (p.start, p.at_) ⟨i1, i2⟩ rfl p.round (wf64 (by omega) (by omega)) fun h4 H => ?_
    have H : At h0 h4 (.blk b2 131 [.int .i64 p.start, .int .i64 p.at_] :: .blk b1 37 [.int .i64 p.start, .int .i64 p.stamp, .int .i64 p.round, .int .i64 p.at_] :: (fiveL d ty sn nq fq vq (mz.map (·.1)) z D.fl D.vs ++ ((mapsR mz ++ (tosR z ++ F)).set j (mapR keyC 3 mz[j].1 (mz[j].2.1 + 1) (updF mz[j].2.2 (p.start, p.at_) p.round))))) := H
    rw [maps_set hjm _ (mz[j].1, mz[j].2.1 + 1, updF mz[j].2.2 (p.start, p.at_) p.round), ← List.append_assoc (mapsR _)] at H
    have hms : (mz.set j (mz[j].1, mz[j].2.1 + 1, updF mz[j].2.2 (p.start, p.at_) p.round)).map (·.1) = mz.map (·.1) := map_setS _ mz hjm _ rfl
    have H := H.tail
    repeat (first | with_reducible refine nn ?_ | with_reducible refine let_ ?_ | with_reducible refine brSome ?_ | with_reducible refine brF ?_ | with_reducible refine brT ?_ | ((with_reducible apply ldAt H 0); exact rfl; exact rfl) | ((with_reducible apply ldAt0 H 0); exact rfl; exact rfl) | ((with_reducible apply stAt H 0); exact rfl; exact rfl; intro h H) | ((with_reducible apply stAt0 H 0); exact rfl; exact rfl; intro h H) | ((with_reducible refine ⟨?_, ?_⟩); first | ((with_reducible apply ldAt H 0); exact rfl; exact rfl; exact rfl) | ((with_reducible apply ldAt0 H 0); exact rfl; exact rfl; exact rfl)))
    have H := H.mv 1 5
    have hmm : ((.blk b1 37 [.int .i64 p.start, .int .i64 p.stamp, .int .i64 p.round, .int .i64 p.at_] : Res) :: ((mapsR (mz.set j (mz[j].1, mz[j].2.1 + 1, updF mz[j].2.2 (p.start, p.at_) p.round)) ++ tosR z) ++ F))[mz.length + q + 1]? = some (.own z[q].2 1 (eNum.fl z[q].1.to)) := by
      have := tos_at (mz := mz.set j (mz[j].1, mz[j].2.1 + 1, updF mz[j].2.2 (p.start, p.at_) p.round)) hq F
      rw [List.length_set] at this
      exact this
    refine chase_goes_ok (p := p) (k := q) (m := mz.length + q + 1) H (by omega) hu hq he hmm (fun t ht => by rw [hz]; exact (hnk.to t ht).1) htl2 (by omega) fun h5 fq2 H => ?_
    rw [hz, ← hms] at H
    have H : At h0 h5 (fiveL d ty sn nq fq2 vq _ z (D.fl ++ sentL D.N z[q].1.to p) D.vs ++ ((mapsR (mz.set j (mz[j].1, mz[j].2.1 + 1, updF mz[j].2.2 (p.start, p.at_) p.round)) ++ tosR z) ++ F)) := H.del 5
    refine hR _ ⟨ty, sn, nq, fq2, vq, z, mz.set j (mz[j].1, mz[j].2.1 + 1, updF mz[j].2.2 (p.start, p.at_) p.round), hz, by rw [List.length_set]; exact hm, fun m hmem => ?_, fun j2 hj2 x a => ?_, H.perm (permIn F _ _).symm⟩
    · rcases List.mem_or_eq_of_mem_set hmem with h | h
      · exact Nat.le_succ_of_le (hmk m h)
      · rw [h]; exact Nat.succ_le_succ (hmk _ (List.getElem_mem hjm))
    · rw [List.length_set] at hj2
      have hold := hsr j2 hj2 x a
      show _ = if hasN D.N a ∧ (nd D.N a).site = (j2 : Int) then (if x = p.start ∧ a = p.at_ then p.round else D.seen x a) else 0
      rw [List.getElem_set]
      by_cases e : j = j2
      · subst e
        rw [if_pos rfl]
        show (updF mz[j].2.2 (p.start, p.at_) p.round (x, a)).getD 0 = _
        unfold updF
        by_cases e2 : x = p.start ∧ a = p.at_
        · obtain ⟨rfl, rfl⟩ := e2
          rw [if_pos rfl, if_pos ⟨hp1.at_, by rw [hnd]; exact hj⟩, if_pos ⟨rfl, rfl⟩]; rfl
        · rw [if_neg (c := (x, a) = (p.start, p.at_)) (fun h => e2 ⟨congrArg Prod.fst h, congrArg Prod.snd h⟩), if_neg e2]
          exact hold
      · rw [if_neg e, hold]
        by_cases e2 : x = p.start ∧ a = p.at_
        · obtain ⟨rfl, rfl⟩ := e2
          have hns : ¬ (hasN D.N p.at_ ∧ (nd D.N p.at_).site = (j2 : Int)) := fun x => e (by have := x.2; rw [hnd] at this; omega)
          rw [if_neg hns, if_neg hns]
        · rw [if_neg e2]
  · rw [if_neg hge] at hR
    have H : At h0 h (fiveL d ty sn nq fq vq (mz.map (·.1)) z D.fl D.vs ++ (mapsR mz ++ (tosR z ++ F))) := H.tail.tail
    rw [← List.append_assoc (mapsR mz)] at H
    exact hR _ ⟨ty, sn, nq, fq, vq, z, mz, hz, hm, fun m hm => Nat.le_succ_of_le (hmk m hm), hsr, H.perm (permIn F _ _).symm⟩
/-- So many probes come, or fewer, if there are no more. -/
def settleM : Nat → CF → CF
  | 0, C => C
  | m + 1, C => if (settleM m C).fl = [] then settleM m C else (kDeliver (settleM m C) 0).1
theorem settle_stay {C : CF} {j : Nat} (h : (settleM j C).fl = []) : ∀ i, settleM (j + i) C = settleM j C
  | 0 => rfl
  | i + 1 => by
    show (if (settleM (j + i) C).fl = [] then settleM (j + i) C else _) = _
    rw [settle_stay h i, if_pos h]
theorem COk.settle {C : CF} (ho : COk s N C) : ∀ m, COk s N (settleM m C)
  | 0 => ho
  | m + 1 => by
    show COk s N (if _ then _ else _)
    split
    · exact COk.settle ho m
    · exact (COk.settle ho m).deliver 0
theorem chase_Settle_ok {m : Nat} {R : Int → Heap → Prop} (H : FldAt h0 h d s k C F) (ho : COk s N C) (hN : N ≤ 1000000) (hk : k + m ≤ 1000000000) (hfl : ∀ j, j ≤ m → (settleM j C).fl.length ≤ 900000)
    (hR : ∀ q h', FldAt h0 h' d s (k + m) (settleM m C) F → R q h') : C_chase_Field_Settle (some ⟨d, 0, none⟩) (m : Int) h R := by
  refine A_chase_Field_Settle ?_
  unfold S_chase_Field_Settle
  refine loop1 (s1 := .one (.int .i64)) (fun (x : Int) h1 => ∃ j : Nat, x = j ∧ j ≤ m ∧ FldAt h0 h1 d s (k + j) (settleM j C) F) (fun (x : Int) _ => (m - x).toNat)
    ⟨0, rfl, Nat.zero_le _, H⟩ fun _ (x : Int) h1 hI => ?_
  obtain ⟨j, rfl, hj, H⟩ := hI
  refine brT (brD (fun hc => ?_) fun hc => ?_)
  · have hlen := hfl j hj
    have hoj := ho.settle j
    have keepF := H
    obtain ⟨ty, sn, nq, fq, vq, z, mz, hz, hm, hmk, hsr, H⟩ := H
    have H := H.perm (permIn F _ _)
    have hfn := H.n 3 rfl
    repeat (first | with_reducible refine nn ?_ | with_reducible refine let_ ?_ | with_reducible refine brSome ?_ | with_reducible refine brF ?_ | with_reducible refine brT ?_ | ((with_reducible apply ldAt H 0); exact rfl; exact rfl) | ((with_reducible apply ldAt0 H 0); exact rfl; exact rfl) | ((with_reducible apply stAt H 0); exact rfl; exact rfl; intro h H) | ((with_reducible apply stAt0 H 0); exact rfl; exact rfl; intro h H) | ((with_reducible apply allocAt H); intro h b H) | ((with_reducible refine ⟨?_, ?_⟩); first | ((with_reducible apply ldAt H 0); exact rfl; exact rfl; exact rfl) | ((with_reducible apply ldAt0 H 0); exact rfl; exact rfl; exact rfl)))
    refine brD (fun hp => ?_) fun hp => ?_
    · have hne : (settleM j C).fl ≠ [] := fun e => by rw [e] at hfn; simp at hfn; omega
      refine chase_Deliver_ok keepF hoj hN (by omega) hlen fun h2 H => ?_
      refine let_ ?_
      rw [w64 (by omega) (by omega)]
      have e : settleM (j + 1) C = (kDeliver (settleM j C) 0).1 := by
        show (if _ then _ else _) = _
        rw [if_neg hne]
      exact ⟨⟨j + 1, by omega, by omega, by rw [e]; exact H⟩, by omega⟩
    · have he : (settleM j C).fl = [] := List.length_eq_zero_iff.1 (by omega)
      have := settle_stay he (m - j)
      rw [show j + (m - j) = m by omega] at this
      rw [this] at hR
      exact hR _ _ (keepF.mono (by omega))
  · have hjm : j = m := by omega
    subst hjm
    exact hR _ _ H
end
end Go.Proofs.Ytmpekddpehhdnaa
