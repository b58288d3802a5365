/-
  Several of the proof's texts in one: Hb, Hc, V4, Hd, Xa, Ph, SZ.
-/
import Derived.Test.YtniojdaddolnfaaGreatMf
import Derived.Test.YtniojdaddolnfaaGreatMd
import Derived.Test.YtniojdaddolnfaaGreatMe
import Derived.Test.YtniojdaddolnfaaGreatMc
import Derived.Test.YtniojdaddolnfaaGreatProg
set_option linter.unusedVariables false
set_option linter.unusedSimpArgs false

/-
  Layer 6 (hard): contracts of what is read alone, of a save's records, and of writing them; the document's.
-/
namespace Go.Proofs.YtniojdaddolnfaaGreat
open Go

def eEN : Enc Ent 2 := ⟨fun e => [.int .i64 e.t, .string (strB e.d)], fun _ => rfl, by decide, fun x u hu => by
  simp only [List.mem_cons, List.not_mem_nil, or_false] at hu
  rcases hu with rfl | rfl <;> rfl⟩
theorem TEN : ElemT Tryz.prog 37 40 2 24 := .of (by kernel_rfl)
theorem fa_snoc {α : Type} {Q : α → Prop} {l : List α} {k : Nat} (h : ∀ e ∈ l.take k, Q e) (hk : k < l.length) (hq : Q l[k]) : ∀ e ∈ l.take (k + 1), Q e := fun e he => by
  rw [take_snoc l k hk] at he
  rcases List.mem_append.1 he with he | he
  · exact h e he
  · rw [List.mem_singleton.1 he]; exact hq
theorem At.join2 {h0 h : Heap} {a b c : Res} {F : List Res} (H : At h0 h (a :: b :: F)) (hc : a.ok h → b.ok h → c.ok h) (hf : ∀ g, c.fp g → a.fp g ∨ b.fp g) : At h0 h (c :: F) := by
  obtain ⟨s1, s2⟩ := List.pairwise_cons.1 H.sep
  obtain ⟨s3, s4⟩ := List.pairwise_cons.1 s2
  have ma : a ∈ a :: b :: F := List.mem_cons_self ..
  have mb : b ∈ a :: b :: F := List.mem_cons_of_mem _ (List.mem_cons_self ..)
  refine ⟨H.ext, fun r hr => ?_, fun r hr g hg => ?_, List.pairwise_cons.2 ⟨fun r hr g hg => ?_, s4⟩⟩
  · rcases List.mem_cons.1 hr with rfl | hr
    · exact hc (H.ok _ ma) (H.ok _ mb)
    · exact H.ok r (List.mem_cons_of_mem _ (List.mem_cons_of_mem _ hr))
  · rcases List.mem_cons.1 hr with rfl | hr
    · rcases hf g hg with x | x
      · exact H.lo _ ma g x
      · exact H.lo _ mb g x
    · exact H.lo r (List.mem_cons_of_mem _ (List.mem_cons_of_mem _ hr)) g hg
  · rcases hf g hg with x | x
    · exact s1 r (List.mem_cons_of_mem _ hr) g x
    · exact s3 r hr g x
theorem At.subl {h0 h : Heap} {L L' : List Res} (H : At h0 h L) (s : L'.Sublist L) : At h0 h L' := ⟨H.ext, fun r hr => H.ok r (s.subset hr), fun r hr => H.lo r (s.subset hr), H.sep.sublist s⟩
/-- The records' bytes, as one thing. -/
def datW (bs : List BR) : Res := .any (fun g => ∃ a ∈ bs, 0 < (cB a.xs).length ∧ a.s.blk = some g) (fun h => ∀ a ∈ bs, RdS h 1 a.s (cB a.xs))
  (fun h h' hs hk h2 a ha => Res.keep (.rd a.s 1 (cB a.xs)) hs (fun g hg hl => hk g ⟨a, ha, hg⟩ hl) (h2 a ha))
  (fun h h2 g hg => by obtain ⟨a, ha, hg⟩ := hg; exact Res.lt (.rd a.s 1 (cB a.xs)) (h2 a ha) g hg)
/-- A record's bytes more. -/
theorem At.datS {h0 h : Heap} {F : List Res} {bs : List BR} {k : UInt8} {s : Sl} {xs : List UInt8} (H : At h0 h (.own s 1 (cB xs) :: datW bs :: F)) : At h0 h (datW (bs ++ [⟨k, s, xs⟩]) :: F) :=
  H.join2 (fun ha hb a hm => by
    rcases List.mem_append.1 hm with hm | hm
    · exact hb a hm
    · rw [List.mem_singleton.1 hm]; exact Own.rd ha) fun g hg => by
    obtain ⟨a, hm, h1, h2⟩ := hg
    rcases List.mem_append.1 hm with hm | hm
    · exact .inr ⟨a, hm, h1, h2⟩
    · rw [List.mem_singleton.1 hm] at h2; exact .inl h2
section
variable {h0 hB h : Heap} {L F : List Res} {d p : Nat} {ty : TypeId} {s sd : Sl} {b : List UInt8} {n : Nat} {es : List Ent} {bs : List BR} {rs : List WRec}
theorem wIntA {xs : List UInt8} {m : Int} {R : Sl → Heap → Prop} (H : At h0 h L) (i : Nat) (hi : L[i]? = some (.own s 1 (cB xs))) (hlen : xs.length ≤ 1000000000000)
    (hR : ∀ s' h', At h0 h' (L.set i (.own s' 1 (cB (xs ++ be8 m)))) → R s' h') : C_word_Int s m h R :=
  word_IntP (H.get i hi) hlen fun s' h' o g => hR s' h' (H.turn i hi (r' := .own s' 1 (cB (xs ++ be8 m))) g.upd o g.stp.grow)
theorem wTextA {xs : List UInt8} {t : ByteArray} {R : Sl → Heap → Prop} (H : At h0 h L) (i : Nat) (hi : L[i]? = some (.own s 1 (cB xs))) (hlen : xs.length ≤ 1000000000000)
    (hR : ∀ s' h', At h0 h' (L.set i (.own s' 1 (cB (xs ++ txt t.data.toList)))) → R s' h') : C_word_Text s t h R :=
  word_TextP (H.get i hi) hlen fun s' h' o g => hR s' h' (H.turn i hi (r' := .own s' 1 (cB (xs ++ txt t.data.toList))) g.upd o g.stp.grow)
/-! ## few, plain, Right, Same -/
theorem hard_Right_ok {t v : Int} {R : Bool → Heap → Prop} (hr : RdS hB 2 s (eEN.fl es)) (hl : es.length ≤ 1000000000000000) (hR : ∀ h', Ext hB.size hB h' → R (rightM ⟨t, v, es⟩) h') : C_hard_Right (t, v, s, ()) hB R := by
  refine A_hard_Right ?_
  unfold S_hard_Right
  have hn := rdn hr
  unfold rightM at hR
  simp only at hR
  have bad : (t < 0 ∨ 1099511627776 < t ∨ v < -1 ∨ 6 < v ∨ 1024 < es.length) → ∀ h', Ext hB.size hB h' → R false h' := fun hb h' e => by
    have := hR h' e
    rwa [if_pos hb] at this
  refine allocAt (At.start hB) fun h1 p1 H => ldAt0 H 0 rfl t rfl ?_
  refine brD (fun hc => bad (by omega) _ H.ext) fun c1 => ldAt0 H 0 rfl t rfl (brD (fun hc => bad (by omega) _ H.ext) fun c2 => ldAt H 0 rfl v rfl (brD (fun hc => bad (by omega) _ H.ext) fun c3 => ldAt H 0 rfl v rfl (brD (fun hc => bad (by omega) _ H.ext) fun c4 => ldAt H 0 rfl s rfl (brD (fun hc => bad (by omega) _ H.ext) fun c5 => ldAt H 0 rfl s rfl ?_))))
  have hR2 : ∀ h', Ext hB.size hB h' → R (rightE t 1 es) h' := fun h' e => by
    have := hR h' e
    rwa [if_neg (by omega)] at this
  refine loop2 (s1 := .one (.int .i64)) (s2 := .one (.int .i64)) (fun (last x : Int) h2 => ∃ k : Nat, x = k ∧ k ≤ es.length ∧ At hB h2 [.blk p1 46 [.int .i64 t, .int .i64 v, .slice s.a s.n s.c]] ∧ rightE t last (es.drop k) = rightE t 1 es) (fun _ (x : Int) _ => (es.length - x).toNat)
    ⟨0, rfl, Nat.zero_le _, H, rfl⟩ fun _ (last x : Int) h2 hI => ?_
  obtain ⟨k, rfl, hk, H, hle⟩ := hI
  refine brD (fun hc => ?_) fun hc => ?_
  · have hk2 : k < es.length := by omega
    rw [List.drop_eq_getElem_cons hk2, rightE] at hle
    refine ixR (H.arg hr) k rfl hk2 fun e he => ?_
    repeat (first | with_reducible refine nn ?_ | with_reducible refine let_ ?_ | with_reducible refine brSome ?_ | with_reducible refine brF ?_ | with_reducible refine brT ?_ | ((with_reducible apply ldAt H 0); exact rfl; exact rfl) | ((with_reducible apply ldAt0 H 0); exact rfl; exact rfl) | ((with_reducible apply ldAt H 1); exact rfl; exact rfl) | ((with_reducible apply ldAt0 H 1); exact rfl; exact rfl) | ((with_reducible apply ldR (H.arg hr)); assumption; (case hk => assumption); exact rfl) | ((with_reducible apply ldR0 (H.arg hr)); assumption; (case hk => assumption); exact rfl) | ((with_reducible apply stAt H 0); exact rfl; exact rfl; intro h H) | ((with_reducible apply stAt0 H 0); exact rfl; exact rfl; intro h H) | ((with_reducible apply stAt H 1); exact rfl; exact rfl; intro h H) | ((with_reducible apply stAt0 H 1); exact rfl; exact rfl; intro h H) | ((with_reducible apply allocAt H); intro h b H) | ((with_reducible refine ⟨?_, ?_⟩); first | ((with_reducible apply ldAt H 0); exact rfl; exact rfl; exact rfl) | ((with_reducible apply ldAt0 H 0); exact rfl; exact rfl; exact rfl) | ((with_reducible apply ldAt H 1); exact rfl; exact rfl; exact rfl) | ((with_reducible apply ldAt0 H 1); exact rfl; exact rfl; exact rfl)))
    have bad2 : (es[k].t < last ∨ t < es[k].t ∨ 512 < (es[k].d.length : Int)) → ∀ h', Ext hB.size hB h' → R false h' := fun hb h' e => by
      have := hR2 h' e
      rwa [← hle, if_pos hb] at this
    refine brD (fun hc => bad2 (by omega) _ H.ext) fun d1 => ?_
    repeat (first | with_reducible refine nn ?_ | with_reducible refine let_ ?_ | with_reducible refine brSome ?_ | with_reducible refine brF ?_ | with_reducible refine brT ?_ | ((with_reducible apply ldAt H 0); exact rfl; exact rfl) | ((with_reducible apply ldAt0 H 0); exact rfl; exact rfl) | ((with_reducible apply ldAt H 1); exact rfl; exact rfl) | ((with_reducible apply ldAt0 H 1); exact rfl; exact rfl) | ((with_reducible apply stAt H 0); exact rfl; exact rfl; intro h H) | ((with_reducible apply stAt0 H 0); exact rfl; exact rfl; intro h H) | ((with_reducible apply stAt H 1); exact rfl; exact rfl; intro h H) | ((with_reducible apply stAt0 H 1); exact rfl; exact rfl; intro h H) | ((with_reducible apply allocAt H); intro h b H) | ((with_reducible refine ⟨?_, ?_⟩); first | ((with_reducible apply ldAt H 0); exact rfl; exact rfl; exact rfl) | ((with_reducible apply ldAt0 H 0); exact rfl; exact rfl; exact rfl) | ((with_reducible apply ldAt H 1); exact rfl; exact rfl; exact rfl) | ((with_reducible apply ldAt0 H 1); exact rfl; exact rfl; exact rfl)))
    refine brD (fun hc => bad2 (by omega) _ H.ext) fun d2 => ?_
    repeat (first | with_reducible refine nn ?_ | with_reducible refine let_ ?_ | with_reducible refine brSome ?_ | with_reducible refine brF ?_ | with_reducible refine brT ?_ | ((with_reducible apply ldAt H 0); exact rfl; exact rfl) | ((with_reducible apply ldAt0 H 0); exact rfl; exact rfl) | ((with_reducible apply ldAt H 1); exact rfl; exact rfl) | ((with_reducible apply ldAt0 H 1); exact rfl; exact rfl) | ((with_reducible apply stAt H 0); exact rfl; exact rfl; intro h H) | ((with_reducible apply stAt0 H 0); exact rfl; exact rfl; intro h H) | ((with_reducible apply stAt H 1); exact rfl; exact rfl; intro h H) | ((with_reducible apply stAt0 H 1); exact rfl; exact rfl; intro h H) | ((with_reducible apply allocAt H); intro h b H) | ((with_reducible refine ⟨?_, ?_⟩); first | ((with_reducible apply ldAt H 0); exact rfl; exact rfl; exact rfl) | ((with_reducible apply ldAt0 H 0); exact rfl; exact rfl; exact rfl) | ((with_reducible apply ldAt H 1); exact rfl; exact rfl; exact rfl) | ((with_reducible apply ldAt0 H 1); exact rfl; exact rfl; exact rfl)))
    rw [strB_size]
    refine brD (fun hc => bad2 (by omega) _ H.ext) fun d3 => ?_
    repeat (first | with_reducible refine nn ?_ | with_reducible refine let_ ?_ | with_reducible refine brSome ?_ | with_reducible refine brF ?_ | with_reducible refine brT ?_ | ((with_reducible apply ldAt H 0); exact rfl; exact rfl) | ((with_reducible apply ldAt0 H 0); exact rfl; exact rfl) | ((with_reducible apply ldAt H 1); exact rfl; exact rfl) | ((with_reducible apply ldAt0 H 1); exact rfl; exact rfl) | ((with_reducible apply stAt H 0); exact rfl; exact rfl; intro h H) | ((with_reducible apply stAt0 H 0); exact rfl; exact rfl; intro h H) | ((with_reducible apply stAt H 1); exact rfl; exact rfl; intro h H) | ((with_reducible apply stAt0 H 1); exact rfl; exact rfl; intro h H) | ((with_reducible apply allocAt H); intro h b H) | ((with_reducible refine ⟨?_, ?_⟩); first | ((with_reducible apply ldAt H 0); exact rfl; exact rfl; exact rfl) | ((with_reducible apply ldAt0 H 0); exact rfl; exact rfl; exact rfl) | ((with_reducible apply ldAt H 1); exact rfl; exact rfl; exact rfl) | ((with_reducible apply ldAt0 H 1); exact rfl; exact rfl; exact rfl)))
    rw [w64 (by omega) (by omega)]
    rw [if_neg (by omega)] at hle
    exact ⟨⟨k + 1, by omega, by omega, H.tail, hle⟩, by omega⟩
  · have hkl : k = es.length := by omega
    subst hkl
    rw [List.drop_length] at hle
    have := hR2 h2 H.ext
    rw [← hle] at this
    exact this
theorem ent_eq (a c : Ent) : eqL (eEN.cells a) (eEN.cells c) = true ↔ a = c := by
  simp only [eEN, eqL, eqB, strB_toList, Bool.and_true, Bool.and_eq_true, beq_iff_eq]
  cases a; cases c; simp
theorem ref06_Same_ok {t1 v1 t2 v2 : Int} {s1 s2 : Sl} {e1 e2 : List Ent} {R : Bool → Heap → Prop} (h1 : RdS hB 2 s1 (eEN.fl e1)) (h2 : RdS hB 2 s2 (eEN.fl e2)) (hl : e1.length ≤ 1000000000000000)
    (hR : ∀ (w : Bool) h', Ext hB.size hB h' → (w = true ↔ (⟨t1, v1, e1⟩ : Stt) = ⟨t2, v2, e2⟩) → R w h') : C_ref06_Same (t1, v1, s1, ()) (t2, v2, s2, ()) hB R := by
  refine A_ref06_Same ?_
  unfold S_ref06_Same
  have hn1 := rdn h1
  have hn2 := rdn h2
  have no : ¬ (t1 = t2 ∧ v1 = v2 ∧ e1 = e2) → ∀ h', Ext hB.size hB h' → R false h' := fun hne h' e => hR false h' e ⟨(fun x => by cases x), fun x => absurd (by simpa using x) hne⟩
  refine allocAt (At.start hB) fun h1' p1 H => allocAt H fun h2' p2 H => ?_
  refine ldAt0 H 1 rfl t1 rfl (ldAt0 H 0 rfl t2 rfl (brB (fun hb => no (fun x => by rw [bne_iff_ne] at hb; exact hb x.1) _ H.ext) fun c1 => ?_))
  refine ldAt H 1 rfl v1 rfl (ldAt H 0 rfl v2 rfl (brB (fun hb => no (fun x => by rw [bne_iff_ne] at hb; exact hb x.2.1) _ H.ext) fun c2 => ?_))
  refine ldAt H 1 rfl s1 rfl (ldAt H 0 rfl s2 rfl (brB (fun hb => no (fun x => by rw [bne_iff_ne] at hb; apply hb; rw [hn1, hn2, x.2.2]) _ H.ext) fun c3 => ldAt H 1 rfl s1 rfl ?_))
  rw [bne_eq_false_iff_eq] at c1 c2 c3
  have hlen : e1.length = e2.length := by omega
  refine loop1 (s1 := .one (.int .i64)) (fun (x : Int) h3 => ∃ k : Nat, x = k ∧ k ≤ e1.length ∧ At hB h3 [.blk p2 46 [.int .i64 t2, .int .i64 v2, .slice s2.a s2.n s2.c], .blk p1 46 [.int .i64 t1, .int .i64 v1, .slice s1.a s1.n s1.c]] ∧ e1.take k = e2.take k) (fun (x : Int) _ => (e1.length - x).toNat)
    ⟨0, rfl, Nat.zero_le _, H, rfl⟩ fun _ (x : Int) h3 hI => ?_
  obtain ⟨k, rfl, hk, H, hle⟩ := hI
  refine brD (fun hc => ?_) fun hc => ?_
  · have hk1 : k < e1.length := by omega
    have hk2 : k < e2.length := by omega
    refine ldAt H 1 rfl s1 rfl (ixR (H.arg h1) k rfl hk1 fun e he => ldR0 (H.arg h1) he hk1 e1[k].t rfl (ldR (H.arg h1) he hk1 (strB e1[k].d) rfl ?_))
    refine ldAt H 0 rfl s2 rfl (ixR (H.arg h2) k rfl hk2 fun e he => ldR0 (H.arg h2) he hk2 e2[k].t rfl (ldR (H.arg h2) he hk2 (strB e2[k].d) rfl ?_))
    refine opNeq (us := eEN.cells e1[k]) (vs := eEN.cells e2[k]) (by kernel_rfl) (brB (fun hb => ?_) fun hb => ?_)
    · refine no (fun x => ?_) _ H.ext
      have : e1[k] = e2[k] := by
        have := congrArg (·[k]?) x.2.2
        simpa [List.getElem?_eq_getElem hk1, List.getElem?_eq_getElem hk2] using this
      rw [(ent_eq _ _).2 this] at hb
      cases hb
    · have he : e1[k] = e2[k] := (ent_eq _ _).1 (by simpa using hb)
      rw [w64 (by omega) (by omega)]
      exact ⟨⟨k + 1, by omega, by omega, H, by rw [take_snoc e1 k hk1, take_snoc e2 k hk2, hle, he]⟩, by omega⟩
  · have hkl : k = e1.length := by omega
    subst hkl
    rw [List.take_length, hlen, List.take_length] at hle
    exact hR true h3 H.ext ⟨fun _ => by rw [c1, c2, hle], fun _ => rfl⟩

/-! ## Records -/
theorem savR_pos {s : Sav} {r : WRec} (hr : r ∈ savR s) : 0 < r.data.length := by
  rcases List.mem_append.1 hr with hr | hr
  · split at hr
    · rw [List.mem_singleton.1 hr]; simp [be8_length]
    · cases hr
  · rw [List.mem_mapIdx] at hr
    obtain ⟨k, hk, rfl⟩ := hr
    simp only [entR, List.length_append, be8_length]
    omega
theorem hard_Records_ok {a : Bool} {t v f : Int} {R : Sl → Heap → Prop} (hr : RdS hB 2 s (eEN.fl es)) (hl : es.length ≤ 1000000)
    (hR : ∀ out bs h', OutW hB.size h' out bs → (∀ a ∈ bs, a.s.n ≤ a.s.c) → bs.map BR.rec_ = savR ⟨a, t, v, f, es⟩ → Ext hB.size hB h' → R out h') : C_hard_Records (a, t, v, f, s, ()) hB R := by
  refine A_hard_Records ?_
  unfold S_hard_Records
  have hn := rdn hr
  refine allocAt (At.start hB) fun h1 p1 H => ldAt0 H 0 rfl a rfl ?_
  refine join1 (s1 := .one .sl) (fun (out : Sl) h2 => ∃ bs, At hB h2 [datW bs, .own out 2 (eBR.fl bs), .blk p1 123 [.bool a, .int .i64 t, .int .i64 v, .int .i64 f, .slice s.a s.n s.c]] ∧ (∀ a ∈ bs, a.s.n ≤ a.s.c) ∧ bs.map BR.rec_ = (if a then [⟨1, be8 t ++ be8 v⟩] else [])) (fun _ (out : Sl) h2 hJ => ?_) ?_
  · obtain ⟨bs0, H, hcp0, hbs0⟩ := hJ
    have hpl : (if a then [(⟨1, be8 t ++ be8 v⟩ : WRec)] else []).length ≤ 1 := by split <;> simp
    have hsv : savR ⟨a, t, v, f, es⟩ = (if a then [(⟨1, be8 t ++ be8 v⟩ : WRec)] else []) ++ es.mapIdx (entR f) := rfl
    generalize (if a then [(⟨1, be8 t ++ be8 v⟩ : WRec)] else []) = pre at *
    refine ldAt H 2 rfl s rfl ?_
    refine loop2 (s1 := .one .sl) (s2 := .one (.int .i64)) (fun (out : Sl) (x : Int) h3 => ∃ (k : Nat) (bs : List BR), x = k ∧ k ≤ es.length ∧ At hB h3 [datW bs, .own out 2 (eBR.fl bs), .blk p1 123 [.bool a, .int .i64 t, .int .i64 v, .int .i64 f, .slice s.a s.n s.c]] ∧ (∀ a ∈ bs, a.s.n ≤ a.s.c) ∧ bs.map BR.rec_ = pre ++ (es.mapIdx (entR f)).take k) (fun _ (x : Int) _ => (es.length - x).toNat)
      ⟨0, bs0, rfl, Nat.zero_le _, H, hcp0, by rw [List.take_zero, List.append_nil]; exact hbs0⟩ fun _ (out : Sl) (x : Int) h3 hI => ?_
    obtain ⟨k, bs, rfl, hk, H, hcp, hbs⟩ := hI
    have hln : bs.length ≤ 1 + es.length := by
      have := congrArg List.length hbs
      rw [List.length_map, List.length_append, List.length_take, List.length_mapIdx] at this
      omega
    refine brD (fun hc => ?_) fun hc => ?_
    · have hk2 : k < es.length := by omega
      refine ixR (H.arg hr) k rfl hk2 fun e he => ?_
      repeat (first | with_reducible refine nn ?_ | with_reducible refine let_ ?_ | with_reducible refine brSome ?_ | with_reducible refine brF ?_ | with_reducible refine brT ?_ | ((with_reducible apply ldAt H 0); exact rfl; exact rfl) | ((with_reducible apply ldAt0 H 0); exact rfl; exact rfl) | ((with_reducible apply ldAt H 1); exact rfl; exact rfl) | ((with_reducible apply ldAt0 H 1); exact rfl; exact rfl) | ((with_reducible apply ldAt H 2); exact rfl; exact rfl) | ((with_reducible apply ldAt0 H 2); exact rfl; exact rfl) | ((with_reducible apply ldAt H 3); exact rfl; exact rfl) | ((with_reducible apply ldAt0 H 3); exact rfl; exact rfl) | ((with_reducible apply ldR (H.arg hr)); assumption; (case hk => assumption); exact rfl) | ((with_reducible apply ldR0 (H.arg hr)); assumption; (case hk => assumption); exact rfl) | ((with_reducible apply stAt H 0); exact rfl; exact rfl; intro h H) | ((with_reducible apply stAt0 H 0); exact rfl; exact rfl; intro h H) | ((with_reducible apply stAt H 1); exact rfl; exact rfl; intro h H) | ((with_reducible apply stAt0 H 1); exact rfl; exact rfl; intro h H) | ((with_reducible apply stAt H 2); exact rfl; exact rfl; intro h H) | ((with_reducible apply stAt0 H 2); exact rfl; exact rfl; intro h H) | ((with_reducible apply stAt H 3); exact rfl; exact rfl; intro h H) | ((with_reducible apply stAt0 H 3); exact rfl; exact rfl; intro h H) | ((with_reducible apply allocAt H); intro h b H) | ((with_reducible refine ⟨?_, ?_⟩); first | ((with_reducible apply ldAt H 0); exact rfl; exact rfl; exact rfl) | ((with_reducible apply ldAt0 H 0); exact rfl; exact rfl; exact rfl) | ((with_reducible apply ldAt H 1); exact rfl; exact rfl; exact rfl) | ((with_reducible apply ldAt0 H 1); exact rfl; exact rfl; exact rfl) | ((with_reducible apply ldAt H 2); exact rfl; exact rfl; exact rfl) | ((with_reducible apply ldAt0 H 2); exact rfl; exact rfl; exact rfl) | ((with_reducible apply ldAt H 3); exact rfl; exact rfl; exact rfl) | ((with_reducible apply ldAt0 H 3); exact rfl; exact rfl; exact rfl)))
      refine wIntA (xs := []) (H.nil 1) 0 rfl (by decide) fun s4 h4 H => ?_
      repeat (first | with_reducible refine nn ?_ | with_reducible refine let_ ?_ | with_reducible refine brSome ?_ | with_reducible refine brF ?_ | with_reducible refine brT ?_ | ((with_reducible apply ldAt H 0); exact rfl; exact rfl) | ((with_reducible apply ldAt0 H 0); exact rfl; exact rfl) | ((with_reducible apply ldAt H 1); exact rfl; exact rfl) | ((with_reducible apply ldAt0 H 1); exact rfl; exact rfl) | ((with_reducible apply ldAt H 2); exact rfl; exact rfl) | ((with_reducible apply ldAt0 H 2); exact rfl; exact rfl) | ((with_reducible apply ldAt H 3); exact rfl; exact rfl) | ((with_reducible apply ldAt0 H 3); exact rfl; exact rfl) | ((with_reducible apply ldAt H 4); exact rfl; exact rfl) | ((with_reducible apply ldAt0 H 4); exact rfl; exact rfl) | ((with_reducible apply stAt H 0); exact rfl; exact rfl; intro h H) | ((with_reducible apply stAt0 H 0); exact rfl; exact rfl; intro h H) | ((with_reducible apply stAt H 1); exact rfl; exact rfl; intro h H) | ((with_reducible apply stAt0 H 1); exact rfl; exact rfl; intro h H) | ((with_reducible apply stAt H 2); exact rfl; exact rfl; intro h H) | ((with_reducible apply stAt0 H 2); exact rfl; exact rfl; intro h H) | ((with_reducible apply stAt H 3); exact rfl; exact rfl; intro h H) | ((with_reducible apply stAt0 H 3); exact rfl; exact rfl; intro h H) | ((with_reducible apply stAt H 4); exact rfl; exact rfl; intro h H) | ((with_reducible apply stAt0 H 4); exact rfl; exact rfl; intro h H) | ((with_reducible apply allocAt H); intro h b H) | ((with_reducible refine ⟨?_, ?_⟩); first | ((with_reducible apply ldAt H 0); exact rfl; exact rfl; exact rfl) | ((with_reducible apply ldAt0 H 0); exact rfl; exact rfl; exact rfl) | ((with_reducible apply ldAt H 1); exact rfl; exact rfl; exact rfl) | ((with_reducible apply ldAt0 H 1); exact rfl; exact rfl; exact rfl) | ((with_reducible apply ldAt H 2); exact rfl; exact rfl; exact rfl) | ((with_reducible apply ldAt0 H 2); exact rfl; exact rfl; exact rfl) | ((with_reducible apply ldAt H 3); exact rfl; exact rfl; exact rfl) | ((with_reducible apply ldAt0 H 3); exact rfl; exact rfl; exact rfl) | ((with_reducible apply ldAt H 4); exact rfl; exact rfl; exact rfl) | ((with_reducible apply ldAt0 H 4); exact rfl; exact rfl; exact rfl)))
      refine wIntA (xs := _) H 0 rfl (by simp [be8_length]) fun s5 h5 H => ?_
      repeat (first | with_reducible refine nn ?_ | with_reducible refine let_ ?_ | with_reducible refine brSome ?_ | with_reducible refine brF ?_ | with_reducible refine brT ?_ | ((with_reducible apply ldAt H 0); exact rfl; exact rfl) | ((with_reducible apply ldAt0 H 0); exact rfl; exact rfl) | ((with_reducible apply ldAt H 1); exact rfl; exact rfl) | ((with_reducible apply ldAt0 H 1); exact rfl; exact rfl) | ((with_reducible apply ldAt H 2); exact rfl; exact rfl) | ((with_reducible apply ldAt0 H 2); exact rfl; exact rfl) | ((with_reducible apply ldAt H 3); exact rfl; exact rfl) | ((with_reducible apply ldAt0 H 3); exact rfl; exact rfl) | ((with_reducible apply ldAt H 4); exact rfl; exact rfl) | ((with_reducible apply ldAt0 H 4); exact rfl; exact rfl) | ((with_reducible apply stAt H 0); exact rfl; exact rfl; intro h H) | ((with_reducible apply stAt0 H 0); exact rfl; exact rfl; intro h H) | ((with_reducible apply stAt H 1); exact rfl; exact rfl; intro h H) | ((with_reducible apply stAt0 H 1); exact rfl; exact rfl; intro h H) | ((with_reducible apply stAt H 2); exact rfl; exact rfl; intro h H) | ((with_reducible apply stAt0 H 2); exact rfl; exact rfl; intro h H) | ((with_reducible apply stAt H 3); exact rfl; exact rfl; intro h H) | ((with_reducible apply stAt0 H 3); exact rfl; exact rfl; intro h H) | ((with_reducible apply stAt H 4); exact rfl; exact rfl; intro h H) | ((with_reducible apply stAt0 H 4); exact rfl; exact rfl; intro h H) | ((with_reducible apply allocAt H); intro h b H) | ((with_reducible refine ⟨?_, ?_⟩); first | ((with_reducible apply ldAt H 0); exact rfl; exact rfl; exact rfl) | ((with_reducible apply ldAt0 H 0); exact rfl; exact rfl; exact rfl) | ((with_reducible apply ldAt H 1); exact rfl; exact rfl; exact rfl) | ((with_reducible apply ldAt0 H 1); exact rfl; exact rfl; exact rfl) | ((with_reducible apply ldAt H 2); exact rfl; exact rfl; exact rfl) | ((with_reducible apply ldAt0 H 2); exact rfl; exact rfl; exact rfl) | ((with_reducible apply ldAt H 3); exact rfl; exact rfl; exact rfl) | ((with_reducible apply ldAt0 H 3); exact rfl; exact rfl; exact rfl) | ((with_reducible apply ldAt H 4); exact rfl; exact rfl; exact rfl) | ((with_reducible apply ldAt0 H 4); exact rfl; exact rfl; exact rfl)))
      refine wTextA (xs := _) H 0 rfl (by simp [be8_length]) fun s6 h6 H => ?_
      rw [strB_data, List.nil_append] at H
      have hc6 := (H.own 0 rfl).2.1
      refine app1At (E := eBR) TWR H 3 rfl ⟨2, s6, be8 (IntKind.i64.wrap (f + (k : Int))) ++ be8 es[k].t ++ txt es[k].d⟩ (by omega) (by omega) fun s7 h7 H => ?_
      rw [w64 (by omega) (by omega)]
      refine ⟨⟨k + 1, _, by omega, by omega, At.datS (k := 2) (H.del 1), ?_, ?_⟩, by omega⟩
      · intro x hx
        rcases List.mem_append.1 hx with hx | hx
        · exact hcp x hx
        · rw [List.mem_singleton.1 hx]; exact hc6
      · rw [take_snoc _ k (by rw [List.length_mapIdx]; exact hk2), List.getElem_mapIdx, ← List.append_assoc, List.map_append, hbs]
        rfl
    · have hkl : k = es.length := by omega
      subst hkl
      rw [List.take_of_length_le (by rw [List.length_mapIdx]; exact Nat.le_refl _), ← hsv] at hbs
      refine hR out bs h3 ⟨H.rdo 1 rfl, H.from_ 1 rfl, fun x ha => ⟨H.get 0 rfl x ha, fun g hg => ?_⟩⟩ hcp hbs H.ext
      by_cases h0 : 0 < (cB x.xs).length
      · exact H.from_ 0 rfl g ⟨x, ha, h0, hg⟩
      · have hm : x.rec_ ∈ savR ⟨a, t, v, f, es⟩ := by rw [← hbs]; exact List.mem_map_of_mem ha
        have := savR_pos hm
        exact absurd (by rw [cB_length]; exact this) h0
  · cases a with
    | false =>
      refine brF ⟨[], (H.nil 2).new (Ext.refl _ _) (r := datW []) (fun a ha => by cases ha) (fun g hg => by obtain ⟨a, ha, _⟩ := hg; cases ha), (fun a ha => by cases ha), rfl⟩
    | true =>
      refine brT ?_
      repeat (first | with_reducible refine nn ?_ | with_reducible refine let_ ?_ | with_reducible refine brSome ?_ | with_reducible refine brF ?_ | with_reducible refine brT ?_ | ((with_reducible apply ldAt H 0); exact rfl; exact rfl) | ((with_reducible apply ldAt0 H 0); exact rfl; exact rfl) | ((with_reducible apply stAt H 0); exact rfl; exact rfl; intro h H) | ((with_reducible apply stAt0 H 0); exact rfl; exact rfl; intro h H) | ((with_reducible apply allocAt H); intro h b H) | ((with_reducible refine ⟨?_, ?_⟩); first | ((with_reducible apply ldAt H 0); exact rfl; exact rfl; exact rfl) | ((with_reducible apply ldAt0 H 0); exact rfl; exact rfl; exact rfl)))
      refine wIntA (xs := []) (H.nil 1) 0 rfl (by decide) fun s4 h4 H => ?_
      repeat (first | with_reducible refine nn ?_ | with_reducible refine let_ ?_ | with_reducible refine brSome ?_ | with_reducible refine brF ?_ | with_reducible refine brT ?_ | ((with_reducible apply ldAt H 0); exact rfl; exact rfl) | ((with_reducible apply ldAt0 H 0); exact rfl; exact rfl) | ((with_reducible apply ldAt H 1); exact rfl; exact rfl) | ((with_reducible apply ldAt0 H 1); exact rfl; exact rfl) | ((with_reducible apply stAt H 0); exact rfl; exact rfl; intro h H) | ((with_reducible apply stAt0 H 0); exact rfl; exact rfl; intro h H) | ((with_reducible apply stAt H 1); exact rfl; exact rfl; intro h H) | ((with_reducible apply stAt0 H 1); exact rfl; exact rfl; intro h H) | ((with_reducible apply allocAt H); intro h b H) | ((with_reducible refine ⟨?_, ?_⟩); first | ((with_reducible apply ldAt H 0); exact rfl; exact rfl; exact rfl) | ((with_reducible apply ldAt0 H 0); exact rfl; exact rfl; exact rfl) | ((with_reducible apply ldAt H 1); exact rfl; exact rfl; exact rfl) | ((with_reducible apply ldAt0 H 1); exact rfl; exact rfl; exact rfl)))
      refine wIntA (xs := _) H 0 rfl (by simp [be8_length]) fun s5 h5 H => ?_
      rw [List.nil_append] at H
      have hc5 := (H.own 0 rfl).2.1
      refine app1At (E := eBR) (l := []) TWR (H.nil 2) 0 rfl ⟨1, s5, be8 t ++ be8 v⟩ (by decide) (by decide) fun s6 h6 H => ?_
      have H2 := (H.mv 1 1).new (Ext.refl _ _) (r := datW []) (fun a ha => by cases ha) (fun g hg => by obtain ⟨a, ha, _⟩ := hg; cases ha)
      exact ⟨_, At.datS (k := 1) (H2.mv 1 1), (fun x hx => by rw [List.mem_singleton.1 hx]; exact hc5), rfl⟩
end
end Go.Proofs.YtniojdaddolnfaaGreat

/-
  Layer 6 (hard): contracts of writing a save, of playing records, and of recovering; the document's playing.
-/
namespace Go.Proofs.YtniojdaddolnfaaGreat
open Go

section
variable {h0 hB h : Heap} {L F : List Res} {d p pr : Nat} {ty tyr : TypeId} {s sd rs_ q l : Sl} {b : List UInt8} {n : Nat} {es : List Ent} {bs : List BR} {rs : List WRec} {st : Stt} {l0 xs : List UInt8}
theorem recsM_cnt (l : List WRec) : l.length ≤ (recsM l).length := by
  induction l with
  | nil => exact Nat.zero_le _
  | cons r l ih =>
    have := recM_length r
    rw [recsM_cons, List.length_append, List.length_cons]
    omega
theorem hard_Write_ok {a : Bool} {t v f : Int} {R : Int → Heap → Prop} (H : At h0 hB (diskL d ty sd b n ++ F)) (hr : RdS hB 2 s (eEN.fl es)) (hl : es.length ≤ 1000000) (hok : ∀ r ∈ savR ⟨a, t, v, f, es⟩, r.ok) (hsz : b.length + (recsM (savR ⟨a, t, v, f, es⟩)).length ≤ 1048576)
    (hR : ∀ h' s', At h0 h' (diskL d ty s' (b ++ recsM (savR ⟨a, t, v, f, es⟩)) n ++ F) → R 0 h') : C_hard_Write (some ⟨d, 0, none⟩) (a, t, v, f, s, ()) hB R := by
  refine A_hard_Write ?_
  unfold S_hard_Write
  refine alloc fun h1 b1 e1 z1 => ldB b1 a rfl (ldF b1 t rfl (ldF b1 v rfl (ldF b1 f rfl (ldF b1 s rfl ?_))))
  refine hard_Records_ok (hr.ext' e1) hl fun out bs h2 w hcp hbs e2 => ?_
  have hbl : bs.length = (savR ⟨a, t, v, f, es⟩).length := by rw [← hbs, List.length_map]
  generalize savR ⟨a, t, v, f, es⟩ = rs at *
  have hn := rdn w.1
  have H := ((H.ext' e1).newW e2 w).mv 1 2
  have hbl2 := recsM_cnt rs
  refine loop1 (s1 := .one (.int .i64)) (fun (x : Int) h3 => ∃ (k : Nat) (s' : Sl), x = k ∧ k ≤ bs.length ∧ At h0 h3 (diskL d ty s' (b ++ recsM (rs.take k)) n ++ (resW out bs :: F))) (fun (x : Int) _ => (bs.length - x).toNat)
    ⟨0, sd, rfl, Nat.zero_le _, by rw [List.take_zero]; show At h0 h2 (diskL d ty sd (b ++ []) n ++ (resW out bs :: F)); rw [List.append_nil]; exact H⟩ fun _ (x : Int) h3 hI => ?_
  obtain ⟨k, s', rfl, hk, H⟩ := hI
  refine brD (fun hc => ?_) fun hc => ?_
  · have hk2 : k < bs.length := by omega
    have hk3 : k < rs.length := by omega
    have hge : rs[k] = ⟨bs[k].kind, bs[k].xs⟩ := by
      have : (bs.map BR.rec_)[k]? = rs[k]? := by rw [hbs]
      rw [List.getElem?_map, List.getElem?_eq_getElem hk2, List.getElem?_eq_getElem hk3] at this
      exact (Option.some.inj this).symm
    have hokk : WRec.ok ⟨bs[k].kind, bs[k].xs⟩ := by rw [← hge]; exact hok _ (List.getElem_mem hk3)
    have hsp : (recsM (rs.take k)).length + (recM ⟨bs[k].kind, bs[k].xs⟩).length + (recsM (rs.drop (k + 1))).length = (recsM rs).length := by
      have e : rs = rs.take k ++ rs[k] :: rs.drop (k + 1) := by rw [← List.drop_eq_getElem_cons hk3, List.take_append_drop]
      conv => rhs; rw [e, recsM_app, recsM_cons, List.length_append, List.length_append, hge]
      omega
    have w3 : RdS h3 2 out (eBR.fl bs) ∧ ∀ a ∈ bs, RdS h3 1 a.s (cB a.xs) := H.get 2 rfl
    refine ixR w3.1 k rfl hk2 fun e he => ldR0 w3.1 he hk2 ((bs[k].kind.toNat : Nat) : Int) rfl (ldR w3.1 he hk2 bs[k].s rfl ?_)
    repeat (first | with_reducible refine nn ?_ | with_reducible refine let_ ?_ | with_reducible refine brSome ?_ | with_reducible refine brF ?_ | with_reducible refine brT ?_ | ((with_reducible apply ldAt H 0); exact rfl; exact rfl) | ((with_reducible apply ldAt0 H 0); exact rfl; exact rfl) | ((with_reducible apply stAt H 0); exact rfl; exact rfl; intro h H) | ((with_reducible apply stAt0 H 0); exact rfl; exact rfl; intro h H) | ((with_reducible apply allocAt H); intro h b H) | ((with_reducible refine ⟨?_, ?_⟩); first | ((with_reducible apply ldAt H 0); exact rfl; exact rfl; exact rfl) | ((with_reducible apply ldAt0 H 0); exact rfl; exact rfl; exact rfl)))
    have H := H.tail
    have w4 : RdS _ 2 out (eBR.fl bs) ∧ ∀ a ∈ bs, RdS _ 1 a.s (cB a.xs) := H.get 2 rfl
    refine wal_Append_ok H (w4.2 _ (List.getElem_mem hk2)) (by rw [List.length_append]; omega) (fun hno => absurd hokk hno) (fun _ hf => by rw [List.length_append] at hf; omega) fun _ _ h5 s5 H => brN rfl ?_
    rw [w64 (by omega) (by omega)]
    refine ⟨⟨k + 1, s5, by omega, by omega, ?_⟩, by omega⟩
    rw [take_snoc rs k hk3, hge, recsM_app, ← List.append_assoc]
    have e : recsM [⟨bs[k].kind, bs[k].xs⟩] = recM ⟨bs[k].kind, bs[k].xs⟩ := by simp [recsM]
    rw [e]
    exact H
  · have hkl : k = rs.length := by omega
    subst hkl
    rw [List.take_length] at H
    exact hR h3 s' (H.del 2)
/-! ## Playing -/
/-- A player: its struct, its entries. -/
def plrL (p : Nat) (ty : TypeId) (s : Sl) (st : Stt) : List Res := [.blk p ty [.int .i64 st.term, .int .i64 st.vote, .slice s.a s.n s.c], .own s 2 (eEN.fl st.es)]
/-- A source that is read in each heap that has these things. -/
def SrcF (h0 : Heap) (F : List Res) (q : Sl) (l0 : List UInt8) : Prop := ∀ h' L, At h0 h' (L ++ F) → RdS h' 1 q (cB l0)
theorem SrcF.src {p : Nat} {G : List Res} (hq : SrcF h0 F q l0) : Src h0 p (G ++ F) q l0 := fun h' ty cs H => hq h' (.blk p ty cs :: G) H
theorem hard_vote_ok {R : Heap → Prop} (H : At h0 h (rdr pr tyr rs_ false :: (plrL p ty s st ++ F))) (hs : RdF q l0 rs_ xs) (hq : SrcF h0 F q l0)
    (hR : ∀ h' s', At h0 h' (rdr pr tyr s' (vV xs).1 :: (plrL p ty s ⟨(vT xs).2.2, (vV xs).2.2, st.es⟩ ++ F)) → RdF q l0 s' (vV xs).2.1 → R h') : C_hard_player_vote (some ⟨p, 0, none⟩) (some ⟨pr, 0, none⟩) h R := by
  refine A_hard_player_vote ?_
  unfold S_hard_player_vote
  refine word_Int_ok H hs hq.src fun h1 s1 H r1 => nn (stAt0 H 1 rfl rfl fun h2 H => ?_)
  have H : At h0 h2 (rdr pr tyr s1 (vT xs).1 :: (plrL p ty s ⟨(vT xs).2.2, st.vote, st.es⟩ ++ F)) := H
  refine word_Int_ok H r1 hq.src fun h3 s3 H r3 => nn (stAt H 1 rfl rfl fun h4 H => ?_)
  exact hR h4 s3 H r3
theorem hard_entry_ok {R : Heap → Prop} (H : At h0 h (rdr pr tyr rs_ false :: (plrL p ty s st ++ F))) (hs : RdF q l0 rs_ xs) (hq : SrcF h0 F q l0) (hl : st.es.length ≤ 1000000000)
    (h1 : (eD st.es.length xs).1 = true → ∀ h' s', At h0 h' (rdr pr tyr s' true :: (plrL p ty s st ++ F)) → RdF q l0 s' (eD st.es.length xs).2.1 → R h')
    (h2 : (eD st.es.length xs).1 = false → ∀ h' s' s2, At h0 h' (rdr pr tyr s' false :: (plrL p ty s2 ⟨st.term, st.vote, st.es.take ((eI st.es.length xs).2.2 - 1).toNat ++ [⟨(eT st.es.length xs).2.2, (eD st.es.length xs).2.2⟩]⟩ ++ F)) → RdF q l0 s' (eD st.es.length xs).2.1 → R h') :
    C_hard_player_entry (some ⟨p, 0, none⟩) (some ⟨pr, 0, none⟩) h R := by
  refine A_hard_player_entry ?_
  unfold S_hard_player_entry
  have hn := H.n (E := eEN) 2 rfl
  refine nn (ldAt H 1 rfl s rfl (let_ ?_))
  rw [w64 (n := (s.n : Int) + 1) (by omega) (by omega), show (s.n : Int) + 1 = ((st.es.length + 1 : Nat) : Int) by omega]
  refine word_Int_ok H hs hq.src fun h3 s3 H r3 => ?_
  refine word_Int_ok H r3 hq.src fun h4 s4 H r4 => ?_
  refine word_Text_ok H r4 hq.src fun h5 s5 H r5 => ?_
  have H : At h0 h5 (rdr pr tyr s5 (eD st.es.length xs).1 :: (plrL p ty s st ++ F)) := H
  have r5 : RdF q l0 s5 (eD st.es.length xs).2.1 := r5
  show Alloc h5 (.cells #[.int .i64 0, .string (⟨#[]⟩ : ByteArray)] _) _
  have g1 : (mInt (mInt false xs 1 ((st.es.length + 1 : Nat) : Int)).1 (mInt false xs 1 ((st.es.length + 1 : Nat) : Int)).2.1 1 1099511627776).2.2 = (eT st.es.length xs).2.2 := rfl
  have g2 : (mInt false xs 1 ((st.es.length + 1 : Nat) : Int)).2.2 = (eI st.es.length xs).2.2 := rfl
  have g3 : (mText (mInt (mInt false xs 1 ((st.es.length + 1 : Nat) : Int)).1 (mInt false xs 1 ((st.es.length + 1 : Nat) : Int)).2.1 1 1099511627776).1 (mInt (mInt false xs 1 ((st.es.length + 1 : Nat) : Int)).1 (mInt false xs 1 ((st.es.length + 1 : Nat) : Int)).2.1 1 1099511627776).2.1 512).2.2 = (eD st.es.length xs).2.2 := rfl
  rw [g1, g2, g3]
  refine allocAt H fun h6 pe H => stAt0 H 0 rfl rfl fun h7 H => stAt H 0 rfl rfl fun h8 H => ?_
  have H := H.mv 1 1
  refine word_Fail_ok H ?_
  cases hbad : (eD st.es.length xs).1 with
  | true =>
    rw [hbad] at H
    exact brF (h1 hbad h8 s5 (H.del 1) r5)
  | false =>
    rw [hbad] at H
    obtain ⟨i1, i2⟩ := eD_ok hbad
    have H := H.mv 1 1
    generalize hi : (eI st.es.length xs).2.2 = i at *
    rw [w64 (n := i - 1) (by omega) (by omega)]
    obtain ⟨m, hm⟩ : ∃ m : Nat, i - 1 = m := ⟨(i - 1).toNat, by omega⟩
    have hmt : (i - 1).toNat = m := by omega
    have hcap := (H.own 3 rfl).2.1
    refine brT (nn (ldAt H 2 rfl s rfl (cutRO (E := eEN) TEN (H.own 3 rfl) 0 m m lo0 (hii hm) (.inr ⟨hii hm, by simp⟩) (by omega) (by omega) (by omega) (by omega) fun s9 o9 n9 c9 b9 => ?_)))
    rw [List.drop_zero, Nat.sub_zero] at o9
    have H := H.as_ 3 rfl (.own s9 2 (eEN.fl (st.es.take m))) o9 fun g hg => by
      show s.blk = some g
      rw [← b9]; exact hg
    refine ldAt0 H 0 rfl _ rfl (ldAt H 0 rfl _ rfl (allocAt H fun h9 pb H => ⟨ldAt H 3 rfl s rfl rfl, ?_⟩))
    refine app1B (E := eEN) TEN H 4 rfl 0 rfl ⟨(eT st.es.length xs).2.2, (eD st.es.length xs).2.2⟩ rfl (by rw [List.length_take]; omega) (by rw [List.length_take]; omega) fun s10 h10 H => nn (stAt H 3 rfl rfl fun h11 H => ?_)
    refine h2 hbad h11 s5 s10 ?_ r5
    rw [hmt]
    exact (H.del 0).del 0
/-- What is read out of a row of records. -/
def SrcW (h0 : Heap) (F : List Res) (l : Sl) (bs : List BR) : Prop := ∀ h' L, At h0 h' (L ++ F) → RdS h' 2 l (eBR.fl bs) ∧ ∀ a ∈ bs, RdS h' 1 a.s (cB a.xs)
theorem playM_none {rs : List WRec} {k : Nat} (hk : k < rs.length) (h1 : playF st0 (rs.take k) = some st) (h2 : stepM st rs[k] = none) : playM rs = none := by
  have e : rs = rs.take k ++ rs[k] :: rs.drop (k + 1) := by rw [← List.drop_eq_getElem_cons hk, List.take_append_drop]
  unfold playM
  rw [e, playF_snoc, h1]
  simp only [playF]
  rw [h2]
theorem playF_step {rs : List WRec} {k : Nat} {st' : Stt} (hk : k < rs.length) (h1 : playF st0 (rs.take k) = some st) (h2 : stepM st rs[k] = some st') : playF st0 (rs.take (k + 1)) = some st' := by
  rw [take_snoc _ k hk, playF_snoc, h1]
  simp only [playF, h2]
theorem hard_Play_ok {R : KL [.int .i64, .int .i64, .sl] → Int → Heap → Prop} (H : At h0 hB F) (hq : SrcW h0 F l bs) (hcp : ∀ a ∈ bs, a.s.n ≤ a.s.c) (hl : bs.length ≤ 1000000000)
    (h1 : playM (bs.map BR.rec_) = none → ∀ h', At h0 h' F → R (0, 0, ⟨none, 0, 0⟩, ()) 2 h')
    (h2 : ∀ st s h', playM (bs.map BR.rec_) = some st → At h0 h' (.own s 2 (eEN.fl st.es) :: F) → R (st.term, st.vote, s, ()) 0 h') : C_hard_Play l hB R := by
  refine A_hard_Play ?_
  unfold S_hard_Play
  have hn := rdn (hq hB [] H).1
  refine allocAt H fun hc1 p1 H => allocAt (H.nil 2) fun hc2 p2 H => ?_
  have bad : ∀ (h' : Heap) (L : List Res), At h0 h' (L ++ (.blk p1 46 [.int .i64 0, .int .i64 0, .slice none 0 0] :: F)) → playM (bs.map BR.rec_) = none →
      St h' ⟨p1, 0, none⟩ (.int .i64 0) fun h_9 => St h_9 ((⟨p1, 0, none⟩ : Addr).add 1) (.int .i64 0) fun h_10 => St h_10 ((⟨p1, 0, none⟩ : Addr).add 2) (.slice none 0 0) fun h_11 =>
      Ld (.int .i64) h_11 ⟨p1, 0, none⟩ fun (r_0 : Int) => Ld (.int .i64) h_11 ((⟨p1, 0, none⟩ : Addr).add 1) fun (r_1 : Int) => Ld .sl h_11 ((⟨p1, 0, none⟩ : Addr).add 2) fun (r_2 : Sl) => R (r_0, r_1, r_2, ()) 2 h_11 := fun h' L H hp => by
    have H : At h0 h' (.blk p1 46 [.int .i64 0, .int .i64 0, .slice none 0 0] :: F) := H.subl (List.sublist_append_right ..)
    repeat (first | with_reducible refine nn ?_ | with_reducible refine let_ ?_ | with_reducible refine brSome ?_ | with_reducible refine brF ?_ | with_reducible refine brT ?_ | ((with_reducible apply ldAt H 0); exact rfl; exact rfl) | ((with_reducible apply ldAt0 H 0); exact rfl; exact rfl) | ((with_reducible apply stAt H 0); exact rfl; exact rfl; intro h H) | ((with_reducible apply stAt0 H 0); exact rfl; exact rfl; intro h H) | ((with_reducible apply allocAt H); intro h b H) | ((with_reducible refine ⟨?_, ?_⟩); first | ((with_reducible apply ldAt H 0); exact rfl; exact rfl; exact rfl) | ((with_reducible apply ldAt0 H 0); exact rfl; exact rfl; exact rfl)))
    exact ldAt H 0 rfl (⟨none, 0, 0⟩ : Sl) rfl (h1 hp _ H.tail)
  refine loop1 (s1 := .one (.int .i64)) (fun (x : Int) h3 => ∃ (k : Nat) (st : Stt) (s : Sl) (ty : TypeId), x = k ∧ k ≤ bs.length ∧ playF st0 ((bs.map BR.rec_).take k) = some st ∧ st.es.length ≤ k ∧ At h0 h3 (plrL p2 ty s st ++ (.blk p1 46 [.int .i64 0, .int .i64 0, .slice none 0 0] :: F))) (fun (x : Int) _ => (bs.length - x).toNat)
    ⟨0, st0, ⟨none, 0, 0⟩, _, rfl, Nat.zero_le _, rfl, Nat.le_refl _, H⟩ fun _ (x : Int) h3 hI => ?_
  obtain ⟨k, st, s, ty, rfl, hk, hp, hlen, H⟩ := hI
  have Hs := (show At h0 h3 ((plrL p2 ty s st ++ [.blk p1 46 [.int .i64 0, .int .i64 0, .slice none 0 0]]) ++ F) from H)
  refine brD (fun hc => ?_) fun hc => ?_
  · have hk2 : k < bs.length := by omega
    have hk3 : k < (bs.map BR.rec_).length := by rw [List.length_map]; exact hk2
    have hge : (bs.map BR.rec_)[k] = ⟨bs[k].kind, bs[k].xs⟩ := by rw [List.getElem_map]; rfl
    have hxl := hq h3 _ Hs
    have hsrc : ∀ G, SrcF h0 (G ++ F) bs[k].s bs[k].xs := fun G h' L H => (hq h' (L ++ G) (by rw [List.append_assoc]; exact H)).2 _ (List.getElem_mem hk2)
    refine ixR hxl.1 k rfl hk2 fun e he => ldR0 hxl.1 he hk2 ((bs[k].kind.toNat : Nat) : Int) rfl (ldR hxl.1 he hk2 bs[k].s rfl ?_)
    refine allocAt H fun h4 px H => stAt0 H 0 rfl rfl fun h5 H => stAt H 0 rfl rfl fun h6 H => ldAt H 0 rfl bs[k].s rfl ?_
    refine word_Read_ok H fun pr tyr h7 H => ?_
    refine ldAt0 H 1 rfl ((bs[k].kind.toNat : Nat) : Int) rfl ?_
    have H := (H.del 1)
    have H : At h0 h7 (rdr pr tyr bs[k].s false :: (plrL p2 ty s st ++ ([.blk p1 46 [.int .i64 0, .int .i64 0, .slice none 0 0]] ++ F))) := H
    have rf : RdF bs[k].s bs[k].xs bs[k].s bs[k].xs := RdF.self (hxl.2 _ (List.getElem_mem hk2)) (hcp _ (List.getElem_mem hk2))
    refine join0 (fun h8 => ∃ s' bad' xs' st' s2, At h0 h8 (rdr pr tyr s' bad' :: (plrL p2 ty s2 st' ++ ([.blk p1 46 [.int .i64 0, .int .i64 0, .slice none 0 0]] ++ F))) ∧ RdF bs[k].s bs[k].xs s' xs' ∧ st'.es.length ≤ k + 1 ∧ stepM st (bs.map BR.rec_)[k] = if bad' = false ∧ xs' = [] then some st' else none) (fun _ h8 hJ => ?_) ?_
    · obtain ⟨s', bad', xs', st', s2, H, r8, hl8, hst⟩ := hJ
      refine word_Done_ok H r8 (brB (fun hb => ?_) fun hb => ?_)
      · refine bad h8 (rdr pr tyr s' bad' :: plrL p2 ty s2 st') H (playM_none hk3 hp ?_)
        rw [hst, if_neg]
        rintro ⟨rfl, rfl⟩
        cases hb
      · have hb2 : bad' = false ∧ xs' = [] := by
          cases bad' with
          | true => cases hb
          | false => exact ⟨rfl, by simpa using hb⟩
        rw [if_pos hb2] at hst
        rw [w64 (by omega) (by omega)]
        exact ⟨⟨k + 1, st', s2, ty, by omega, by omega, playF_step hk3 hp hst, hl8, H.tail⟩, by omega⟩
    · rw [hge]
      refine br beq_iff_eq (fun hk1 => ?_) fun hk1 => br beq_iff_eq (fun hk2' => ?_) fun hk2' => ?_
      · have e1 : bs[k].kind = 1 := UInt8.toNat_inj.1 (by show bs[k].kind.toNat = 1; omega)
        refine hard_vote_ok H rf (hsrc _) fun h8 s8 H r8 => ⟨s8, _, _, _, s, H, r8, by show st.es.length ≤ k + 1; omega, ?_⟩
        unfold stepM
        rw [if_pos e1]
      · have e1 : bs[k].kind = 2 := UInt8.toNat_inj.1 (by show bs[k].kind.toNat = 2; omega)
        have n1 : ¬ bs[k].kind = 1 := by rw [e1]; decide
        refine hard_entry_ok H rf (hsrc _) (by omega) (fun hb h8 s8 H r8 => ⟨s8, true, _, st, s, H, r8, by omega, ?_⟩) fun hb h8 s8 s9 H r8 => ⟨s8, false, _, _, s9, H, r8, ?_, ?_⟩
        · unfold stepM
          rw [if_neg n1, if_pos e1]
          show (if (eD st.es.length bs[k].xs).1 = false ∧ _ then _ else _) = _
          rw [hb]
          simp
        · rw [List.length_append, List.length_take]; simp; omega
        · unfold stepM
          rw [if_neg n1, if_pos e1]
          show (if (eD st.es.length bs[k].xs).1 = false ∧ _ then _ else _) = _
          rw [hb]
      · have n1 : ¬ bs[k].kind = 1 := fun e => hk1 (by rw [e]; rfl)
        have n2 : ¬ bs[k].kind = 2 := fun e => hk2' (by rw [e]; rfl)
        refine bad h7 (rdr pr tyr bs[k].s false :: plrL p2 ty s st) H (playM_none hk3 hp ?_)
        rw [hge]
        unfold stepM
        rw [if_neg n1, if_neg n2]
  · have hkl : k = bs.length := by omega
    subst hkl
    rw [List.take_of_length_le (by rw [List.length_map]; exact Nat.le_refl _)] at hp
    refine nn (ldAt0 H 0 rfl st.term rfl (ldAt H 0 rfl st.vote rfl (ldAt H 0 rfl s rfl ?_)))
    refine hard_Right_ok (H.rdo 1 rfl) (by omega) fun h4 e4 => ?_
    have H := H.ext' e4
    have hpm : playM (bs.map BR.rec_) = if rightM ⟨st.term, st.vote, st.es⟩ = true then some st else none := by unfold playM; rw [hp]
    refine brB (fun hb => ?_) fun hb => ?_
    · refine bad h4 (plrL p2 ty s st) H ?_
      rw [hpm, if_neg]
      intro h
      rw [h] at hb
      cases hb
    · refine nn (ldAt0 H 0 rfl st.term rfl (ldAt H 0 rfl st.vote rfl (ldAt H 0 rfl s rfl ?_)))
      repeat (first | with_reducible refine nn ?_ | with_reducible refine let_ ?_ | with_reducible refine brSome ?_ | with_reducible refine brF ?_ | with_reducible refine brT ?_ | ((with_reducible apply ldAt H 0); exact rfl; exact rfl) | ((with_reducible apply ldAt0 H 0); exact rfl; exact rfl) | ((with_reducible apply ldAt H 1); exact rfl; exact rfl) | ((with_reducible apply ldAt0 H 1); exact rfl; exact rfl) | ((with_reducible apply ldAt H 2); exact rfl; exact rfl) | ((with_reducible apply ldAt0 H 2); exact rfl; exact rfl) | ((with_reducible apply stAt H 0); exact rfl; exact rfl; intro h H) | ((with_reducible apply stAt0 H 0); exact rfl; exact rfl; intro h H) | ((with_reducible apply stAt H 1); exact rfl; exact rfl; intro h H) | ((with_reducible apply stAt0 H 1); exact rfl; exact rfl; intro h H) | ((with_reducible apply stAt H 2); exact rfl; exact rfl; intro h H) | ((with_reducible apply stAt0 H 2); exact rfl; exact rfl; intro h H) | ((with_reducible apply allocAt H); intro h b H) | ((with_reducible refine ⟨?_, ?_⟩); first | ((with_reducible apply ldAt H 0); exact rfl; exact rfl; exact rfl) | ((with_reducible apply ldAt0 H 0); exact rfl; exact rfl; exact rfl) | ((with_reducible apply ldAt H 1); exact rfl; exact rfl; exact rfl) | ((with_reducible apply ldAt0 H 1); exact rfl; exact rfl; exact rfl) | ((with_reducible apply ldAt H 2); exact rfl; exact rfl; exact rfl) | ((with_reducible apply ldAt0 H 2); exact rfl; exact rfl; exact rfl)))
      refine h2 st s _ ?_ ((H.del 0).del 1)
      rw [hpm, if_pos]
      simpa using hb
/-! ## The document's playing -/
def SrcS (h0 : Heap) (F : List Res) (l : Sl) (rs : List WRec) : Prop := ∀ h' L, At h0 h' (L ++ F) → RdS h' 2 l (eRS.fl rs)
/-! ## Recovering -/
theorem hard_Recover_nil {R : KL [.int .i64, .int .i64, .sl] → Int → Heap → Prop} (H : At h0 hB F) (hR : ∀ h', At h0 h' F → R (0, 0, ⟨none, 0, 0⟩, ()) 1 h') : C_hard_Recover none hB R := by
  refine A_hard_Recover ?_
  unfold S_hard_Recover
  refine allocAt H fun h1 p1 H => wal_Recover_nil (brY rfl ?_)
  repeat (first | with_reducible refine nn ?_ | with_reducible refine let_ ?_ | with_reducible refine brSome ?_ | with_reducible refine brF ?_ | with_reducible refine brT ?_ | ((with_reducible apply ldAt H 0); exact rfl; exact rfl) | ((with_reducible apply ldAt0 H 0); exact rfl; exact rfl) | ((with_reducible apply stAt H 0); exact rfl; exact rfl; intro h H) | ((with_reducible apply stAt0 H 0); exact rfl; exact rfl; intro h H) | ((with_reducible apply allocAt H); intro h b H) | ((with_reducible refine ⟨?_, ?_⟩); first | ((with_reducible apply ldAt H 0); exact rfl; exact rfl; exact rfl) | ((with_reducible apply ldAt0 H 0); exact rfl; exact rfl; exact rfl)))
  exact ldAt H 0 rfl (⟨none, 0, 0⟩ : Sl) rfl (hR _ H.tail)
theorem hard_Recover_ok {R : KL [.int .i64, .int .i64, .sl] → Int → Heap → Prop} (H : At h0 hB (diskL d ty sd b n ++ F)) (hl : b.length ≤ 1048576) (hge : n ≤ (walR b).2.1)
    (h1 : playM (walR b).1 = none → ∀ h' s', At h0 h' (diskL d ty s' (b.take (walR b).2.1) (walR b).2.1 ++ F) → R (0, 0, ⟨none, 0, 0⟩, ()) 2 h')
    (h2 : ∀ st s h' s', playM (walR b).1 = some st → At h0 h' (.own s 2 (eEN.fl st.es) :: (diskL d ty s' (b.take (walR b).2.1) (walR b).2.1 ++ F)) → R (st.term, st.vote, s, ()) 0 h') : C_hard_Recover (some ⟨d, 0, none⟩) hB R := by
  refine A_hard_Recover ?_
  unfold S_hard_Recover
  refine allocAt H fun hc1 p1 H => ?_
  have hle := walM_le b (b.length + 1) [] 0 (Nat.zero_le _)
  have hcnt : (walR b).1.length ≤ 1048576 := by
    have h1 := hle.2.1
    have h2 := hle.2.2
    unfold walR
    simp only [List.length_nil] at h2
    omega
  refine wal_Recover_ok (F := .blk p1 _ _ :: F) (H.mv 1 2) hl (fun hlt => by omega) fun _ h3 out bs s3 hbs hcp H => brN rfl ?_
  have hbl : bs.length ≤ 1048576 := by
    have := congrArg List.length hbs
    rw [List.length_map] at this
    omega
  rw [← hbs] at h1 h2
  have H := H.mv 3 1
  refine hard_Play_ok (F := _ :: (diskL d ty s3 (b.take (walR b).2.1) (walR b).2.1 ++ (resW out bs :: F))) (bs := bs) H (fun h' L H => ?_) hcp (by omega) (fun hp h4 H => ?_) fun st s h4 hp H => ?_
  · have H := H.subl (List.sublist_append_right ..)
    exact H.get 3 rfl
  · repeat (first | with_reducible refine nn ?_ | with_reducible refine let_ ?_ | with_reducible refine brSome ?_ | with_reducible refine brF ?_ | with_reducible refine brT ?_ | ((with_reducible apply ldAt H 0); exact rfl; exact rfl) | ((with_reducible apply ldAt0 H 0); exact rfl; exact rfl) | ((with_reducible apply stAt H 0); exact rfl; exact rfl; intro h H) | ((with_reducible apply stAt0 H 0); exact rfl; exact rfl; intro h H) | ((with_reducible apply allocAt H); intro h b H) | ((with_reducible refine ⟨?_, ?_⟩); first | ((with_reducible apply ldAt H 0); exact rfl; exact rfl; exact rfl) | ((with_reducible apply ldAt0 H 0); exact rfl; exact rfl; exact rfl)))
    exact h1 hp _ s3 (H.tail.del 2)
  · repeat (first | with_reducible refine nn ?_ | with_reducible refine let_ ?_ | with_reducible refine brSome ?_ | with_reducible refine brF ?_ | with_reducible refine brT ?_ | ((with_reducible apply ldAt H 0); exact rfl; exact rfl) | ((with_reducible apply ldAt0 H 0); exact rfl; exact rfl) | ((with_reducible apply ldAt H 1); exact rfl; exact rfl) | ((with_reducible apply ldAt0 H 1); exact rfl; exact rfl) | ((with_reducible apply stAt H 0); exact rfl; exact rfl; intro h H) | ((with_reducible apply stAt0 H 0); exact rfl; exact rfl; intro h H) | ((with_reducible apply stAt H 1); exact rfl; exact rfl; intro h H) | ((with_reducible apply stAt0 H 1); exact rfl; exact rfl; intro h H) | ((with_reducible apply allocAt H); intro h b H) | ((with_reducible refine ⟨?_, ?_⟩); first | ((with_reducible apply ldAt H 0); exact rfl; exact rfl; exact rfl) | ((with_reducible apply ldAt0 H 0); exact rfl; exact rfl; exact rfl) | ((with_reducible apply ldAt H 1); exact rfl; exact rfl; exact rfl) | ((with_reducible apply ldAt0 H 1); exact rfl; exact rfl; exact rfl)))
    exact h2 st s _ s3 hp ((H.del 1).del 3)
end
end Go.Proofs.YtniojdaddolnfaaGreat

/-
  Layer 5 (wal): the laws WalSpoilt, WalCrash over the heap alone.
-/
namespace Go.Proofs.YtniojdaddolnfaaGreat
open Go

/-- A row of records, as an argument. -/
def ArgW (h : Heap) (s : Sl) (bs : List BR) : Prop := RdS h 2 s (eBR.fl bs) ∧ ∀ a ∈ bs, RdS h 1 a.s (cB a.xs) ∧ a.s.n ≤ a.s.c ∧ a.s.c ≤ 140737488351232
theorem recsM_le : ∀ (l : List WRec), (∀ r ∈ l, r.data.length ≤ 300) → (recsM l).length ≤ l.length * 309
  | [], _ => Nat.zero_le _
  | r :: l, h => by
    have h1 := recsM_le l fun x hx => h x (List.mem_cons_of_mem _ hx)
    have h2 := h r (List.mem_cons_self ..)
    have h3 := recM_length r
    rw [recsM_cons, List.length_append, List.length_cons]
    omega
section
open Go.ChangeShapes Go.WideShapes
variable {H : Type} {enc : TypeId × Value → H} {w : World} {b0 : Nat} {v : Value} {d : DataW H} {ps : List MemPlace}
set_option maxRecDepth 100000 in
theorem args_u8s (hval : Value.okWide Tryz.prog w .any b0 75 v) (hd : DataW.Trod enc Tryz.prog w 0 (fun _ => true) true 75 v d ps) (hf : Fits Tryz.prog 75 d) :
    ∃ (s : Sl) (xs : List UInt8), v = s.v ∧ Arg w.heap 1 s (cB xs) ∧ s.below w.heap.size ∧ s.c ≤ 140737488351232 :=
  args_bytes Tryz.underlying75 Tryz.underlying5 (by kernel_rfl) (of_decide_eq_true (by kernel_rfl)) hval hd hf
set_option maxRecDepth 100000 in
theorem els_record : ElS enc Tryz.prog w 109 fun cs => ∃ a : BR, cs = eBR.cells a ∧ RdS w.heap 1 a.s (cB a.xs) ∧ a.s.n ≤ a.s.c ∧ a.s.c ≤ 140737488351232 := by
  refine els_st Tryz.underlying109 fun cs hl hf => ?_
  have hl3 : cs.length = 2 := hl.trans (by kernel_rfl)
  match cs, hl3 with
  | [c0, c1], _ =>
    obtain ⟨_, _, h0, _⟩ := hf 0 _ rfl
    obtain ⟨_, x1, h1, f1⟩ := hf 1 _ rfl
    obtain ⟨n0, e0, w0⟩ := el_int Tryz.underlying5 _ _ _ h0
    obtain ⟨s, xs, e1, a1, w1⟩ := els_bytes Tryz.underlying75 Tryz.underlying5 (by kernel_rfl) (of_decide_eq_true (by kernel_rfl)) _ _ _ h1 f1
    have e0' : [c0] = [Value.int .u8 n0] := e0
    have e1' : [c1] = [s.v] := e1
    simp only [List.cons.injEq, and_true] at e0' e1'
    subst e0' e1'
    have hb := wf_u8 w0
    have hk : ((UInt8.ofNat n0.toNat).toNat : Int) = n0 := by simp; omega
    refine ⟨⟨UInt8.ofNat n0.toNat, s, xs⟩, ?_, a1.rd, a1.le, w1⟩
    show [Value.int .u8 n0, s.v] = [Value.int .u8 ((UInt8.ofNat n0.toNat).toNat : Nat), .slice s.a s.n s.c]
    rw [hk]
set_option maxRecDepth 100000 in
theorem args_records (hval : Value.okWide Tryz.prog w .any b0 78 v) (hd : DataW.Trod enc Tryz.prog w 0 (fun _ => true) true 78 v d ps) (hf : Fits Tryz.prog 78 d) :
    ∃ (s : Sl) (bs : List BR), v = s.v ∧ ArgW w.heap s bs := by
  obtain ⟨s, css, h1, _, h3, h4, _⟩ := args_sl (sz := 2) Tryz.underlying78 (by kernel_rfl) (by decide) (of_decide_eq_true (by kernel_rfl)) els_record hval hd hf
  obtain ⟨bs, h6, h7, _⟩ := cells_of eBR.cells _ fun c hc => (h3 c hc).2
  rw [h6] at h4
  exact ⟨s, bs, h1, h4.rd, h7⟩
end
end Go.Proofs.YtniojdaddolnfaaGreat

/-
  Layer 6 (hard): what the document fixes; the laws HardRecords, HardCrash over the heap alone; their arguments.
-/
namespace Go.Proofs.YtniojdaddolnfaaGreat
open Go

structure SvA where
  hard : Bool
  term : Int
  vote : Int
  frm : Int
  s : Sl
  es : List Ent
def SvA.sav (a : SvA) : Sav := ⟨a.hard, a.term, a.vote, a.frm, a.es⟩
def eSV : Enc SvA 5 := ⟨fun a => [.bool a.hard, .int .i64 a.term, .int .i64 a.vote, .int .i64 a.frm, .slice a.s.a a.s.n a.s.c], fun _ => rfl, by decide, fun x u hu => by
  simp only [List.mem_cons, List.not_mem_nil, or_false] at hu
  rcases hu with rfl | rfl | rfl | rfl | rfl <;> rfl⟩
section
variable {h0 hB h : Heap} {L F : List Res} {d p : Nat} {ty : TypeId} {s sd l : Sl} {b : List UInt8} {n : Nat} {es : List Ent} {bs : List BR} {rs : List WRec}
theorem hard_Recover_ok2 {R : KL [.int .i64, .int .i64, .sl] → Int → Heap → Prop} (H : At h0 hB (diskL d ty sd b n ++ F)) (hl : b.length ≤ 1048576) (hge : n ≤ (walR b).2.1)
    (hR : ∀ tg vg sg eg code h', ((playM (walR b).1 = none ∧ code = 2) ∨ (playM (walR b).1 = some ⟨tg, vg, eg⟩ ∧ code = 0)) → (∃ s', At h0 h' (.own sg 2 (eEN.fl eg) :: (diskL d ty s' (b.take (walR b).2.1) (walR b).2.1 ++ F))) → R (tg, vg, sg, ()) code h') : C_hard_Recover (some ⟨d, 0, none⟩) hB R :=
  hard_Recover_ok H hl hge (fun hp h' s' H => hR 0 0 _ [] 2 h' (.inl ⟨hp, rfl⟩) ⟨s', H.nil 2⟩) fun st s h' s' hp H => hR st.term st.vote s st.es 0 h' (.inr ⟨hp, rfl⟩) ⟨s', H⟩
set_option maxRecDepth 100000 in
theorem savR_size {s : Sav} (h : ∀ e ∈ s.es, e.d.length ≤ 600) : (recsM (savR s)).length ≤ (s.es.length + 1) * 627 := by
  have h1 := recsM_le' 618 _ fun r hr => (savR_ok h r hr).2
  have h2 := savR_len s
  have h3 : (savR s).length * 627 ≤ (s.es.length + 1) * 627 := Nat.mul_le_mul_right _ h2
  omega
set_option maxRecDepth 100000 in
theorem walR_recs {rs : List WRec} (hok : ∀ r ∈ rs, r.ok) : walR (recsM rs) = (rs, (recsM rs).length, 0) := by
  obtain ⟨f2, hf2, hw3⟩ := walM_recs [] rs [] ((recsM rs).length + 1) [] 0 hok rfl (by simp)
  simp only [List.nil_append, Nat.zero_add, List.append_nil] at hf2 hw3
  rw [walM_done (Nat.lt_irrefl _)] at hw3
  exact hw3
/-! ## fixed -/
def fxA : Sav := ⟨true, 3, 1, 1, [⟨2, [120]⟩, ⟨3, [121]⟩]⟩
def fxB : Sav := ⟨false, 0, 0, 2, [⟨3, [122]⟩]⟩
theorem fxA_d : ∀ e ∈ fxA.es, e.d.length ≤ 600 := by
  intro e he
  simp only [fxA, List.mem_cons, List.not_mem_nil, or_false] at he
  rcases he with rfl | rfl <;> decide
theorem fxB_d : ∀ e ∈ fxB.es, e.d.length ≤ 600 := by
  intro e he
  simp only [fxB, List.mem_cons, List.not_mem_nil, or_false] at he
  subst he; decide
theorem fx_play : playM (savR fxA ++ savR fxB) = some ⟨3, 1, [⟨2, [120]⟩, ⟨3, [122]⟩]⟩ := by kernel_rfl
theorem fx_play0 : playM [] = some ⟨0, -1, []⟩ := by kernel_rfl
theorem fx_play3 : playM [⟨3, []⟩] = none := by kernel_rfl
theorem fx_right : rightM ⟨3, 1, [⟨2, [120]⟩, ⟨3, [122]⟩]⟩ = true := by kernel_rfl
/-! ## The laws -/
theorem rec_eq (a c : WRec) : eqL (eRS.cells a) (eRS.cells c) = true ↔ a = c := by
  simp only [eRS, eqL, eqB, strB_toList, Bool.and_true, Bool.and_eq_true, beq_iff_eq]
  cases a; cases c; simp
  intro _
  constructor
  · intro h; exact UInt8.toNat_inj.1 (by omega)
  · intro h; rw [h]
end
end Go.Proofs.YtniojdaddolnfaaGreat

/-
  Layer 18 (wire), over plain lists: bytes of commands, answers and messages, and what bytes tell.
-/
namespace Go.Proofs.YtniojdaddolnfaaGreat
open Go

/-! ## Numbers, texts, truths: put and read -/
def i64ok (n : Int) : Prop := -9223372036854775808 ≤ n ∧ n ≤ 9223372036854775807
def rI (bad : Bool) (l : List UInt8) : Bool × List UInt8 × Int := mInt bad l (-9223372036854775808) 9223372036854775807
theorem wrap_u64' {n : Int} (h : i64ok n) : IntKind.i64.wrap (u64 n : Int) = n := by
  unfold i64ok at h
  rw [IntKind.wrap_i64]; unfold u64; omega
theorem mInt_put (n : Int) (l : List UInt8) (lo hi : Int) (hn : i64ok n) (h : lo ≤ n ∧ n ≤ hi) : mInt false (be8 n ++ l) lo hi = (false, l, n) := by
  have hl := be8_length n
  have ht : (be8 n ++ l).take 8 = be8 n := by rw [List.take_append_of_le_length (by omega), List.take_of_length_le (by omega)]
  have hd : (be8 n ++ l).drop 8 = l := by rw [List.drop_append_of_le_length (by omega), List.drop_of_length_le (by omega)]; rfl
  unfold mInt
  rw [if_neg (by rw [List.length_append]; simp; omega), ht, valBE_be8, wrap_u64' hn, if_pos h, hd]
theorem rI_put (n : Int) (l : List UInt8) (hn : i64ok n) : rI false (be8 n ++ l) = (false, l, n) := mInt_put n l _ _ hn hn
theorem valBE_be2' (k : Nat) (hk : k < 65536) : valBE (be2 k) = k := by
  show valBE [UInt8.ofNat (k / 256), UInt8.ofNat k] = k
  have e : [UInt8.ofNat (k / 256), UInt8.ofNat k] = ([] ++ [UInt8.ofNat (k / 256)]) ++ [UInt8.ofNat k] := rfl
  rw [e, valBE_snoc, valBE_snoc, UInt8.toNat_ofNat', UInt8.toNat_ofNat']
  simp [valBE]; omega
theorem mText_put (t l : List UInt8) (m : Int) (h1 : (t.length : Int) ≤ m) (h2 : t.length ≤ 65535) : mText false (txt t ++ l) m = (false, l, t) := by
  have e : txt t = be2 t.length ++ t := by unfold txt; rw [Nat.min_eq_left h2, List.take_of_length_le h2]
  rw [e, List.append_assoc]
  have ht : (be2 t.length ++ (t ++ l)).take 2 = be2 t.length := rfl
  have hd : (be2 t.length ++ (t ++ l)).drop 2 = t ++ l := rfl
  unfold mText
  rw [if_neg (by simp [be2]), ht, hd, valBE_be2' _ (by omega), if_neg (by omega), if_neg (by rw [List.length_append]; omega), List.take_left, List.drop_left]
theorem mBool_put (b : Bool) (l : List UInt8) : mBool false (tru b ++ l) = (false, l, b) := by
  cases b
  · show mBool false ((0 : UInt8) :: l) = _
    unfold mBool
    rw [if_neg (by simp)]
    rfl
  · show mBool false ((1 : UInt8) :: l) = _
    unfold mBool
    rw [if_neg (by simp)]
    rfl
theorem beN_valBE : ∀ (n : Nat) (xs : List UInt8), xs.length = n → beN (valBE xs) n = xs
  | 0, xs, h => by have := List.eq_nil_of_length_eq_zero h; subst this; rfl
  | n + 1, xs, h => by
    obtain ⟨ys, b, rfl⟩ : ∃ ys b, xs = ys ++ [b] := by
      have := take_snoc xs n (by omega)
      rw [List.take_of_length_le (by omega)] at this
      exact ⟨_, _, this⟩
    have hy : ys.length = n := by simpa using h
    have hb := b.toNat_lt
    rw [valBE_snoc, beN_succ, show (valBE ys * 256 + b.toNat) / 256 = valBE ys by omega, beN_valBE n ys hy]
    congr 2
    exact UInt8.toNat_inj.1 (by rw [UInt8.toNat_ofNat']; omega)
theorem be8_wrap {xs : List UInt8} (h : xs.length = 8) : be8 (IntKind.i64.wrap (valBE xs)) = xs := by
  have hv := valBE8 (l := xs) (k := 8) (Nat.le_refl _)
  rw [List.take_of_length_le (by omega)] at hv
  have e : u64 (IntKind.i64.wrap (valBE xs)) = valBE xs := by
    rw [IntKind.wrap_i64]; unfold u64; omega
  unfold be8
  rw [e]
  exact beN_valBE 8 xs h
theorem mInt_back {bad : Bool} {l : List UInt8} {lo hi : Int} (h : (mInt bad l lo hi).1 = false) : bad = false ∧ l = be8 (mInt bad l lo hi).2.2 ++ (mInt bad l lo hi).2.1 ∧ i64ok (mInt bad l lo hi).2.2 := by
  unfold mInt at h ⊢
  split at h
  · cases h
  · rename_i h1
    rw [if_neg h1]
    split at h
    · rename_i h2
      rw [if_pos h2]
      have hl : ¬ l.length < 8 := fun x => h1 (.inr x)
      refine ⟨by cases bad <;> simp at h1 ⊢, ?_, ?_⟩
      · show l = be8 (IntKind.i64.wrap (valBE (l.take 8))) ++ l.drop 8
        rw [be8_wrap (by rw [List.length_take]; omega), List.take_append_drop]
      · show i64ok (IntKind.i64.wrap (valBE (l.take 8)))
        unfold i64ok
        rw [IntKind.wrap_i64]; omega
    · cases h
theorem rI_back {bad : Bool} {l : List UInt8} (h : (rI bad l).1 = false) : bad = false ∧ l = be8 (rI bad l).2.2 ++ (rI bad l).2.1 ∧ i64ok (rI bad l).2.2 := mInt_back h
theorem be2_val {l : List UInt8} (h : 2 ≤ l.length) : be2 (valBE (l.take 2)) = l.take 2 := by
  have h0 := l[0].toNat_lt
  have h1 := l[1].toNat_lt
  rw [valBE_take2 h]
  unfold be2
  rw [show (l[0].toNat * 256 + l[1].toNat) / 256 = l[0].toNat by omega]
  have e : l.take 2 = [l[0], l[1]] := by rw [take_snoc l 1 (by omega), take_snoc l 0 (by omega)]; rfl
  rw [e]
  congr 1
  · exact UInt8.toNat_inj.1 (by rw [UInt8.toNat_ofNat']; omega)
  · congr 1
    exact UInt8.toNat_inj.1 (by rw [UInt8.toNat_ofNat']; omega)
theorem mText_back {bad : Bool} {l : List UInt8} {m : Int} (h : (mText bad l m).1 = false) : bad = false ∧ l = txt (mText bad l m).2.2 ++ (mText bad l m).2.1 ∧ ((mText bad l m).2.2.length : Int) ≤ m := by
  have h0 := mText_ok h
  refine ⟨h0.1, ?_, h0.2⟩
  have hv := valBE2 (l := l)
  unfold mText at h ⊢
  split at h
  · cases h
  · rename_i h1
    rw [if_neg h1]
    split at h
    · cases h
    · rename_i h2
      rw [if_neg h2]
      split at h
      · cases h
      · rename_i h3
        rw [if_neg h3]
        have hl : ¬ l.length < 2 := fun x => h1 (.inr x)
        show l = txt ((l.drop 2).take (valBE (l.take 2))) ++ (l.drop 2).drop (valBE (l.take 2))
        have e : ((l.drop 2).take (valBE (l.take 2))).length = valBE (l.take 2) := by rw [List.length_take]; omega
        have e2 : ((l.drop 2).take (valBE (l.take 2))).take 65535 = (l.drop 2).take (valBE (l.take 2)) := List.take_of_length_le (by omega)
        have e3 := be2_val (l := l) (by omega)
        unfold txt
        rw [e, e2, Nat.min_eq_left (by omega), e3, List.append_assoc, List.take_append_drop, List.take_append_drop]
theorem mBool_back {bad : Bool} {l : List UInt8} (h : (mBool bad l).1 = false) : bad = false ∧ l = tru (mBool bad l).2.2 ++ (mBool bad l).2.1 := by
  unfold mBool at h ⊢
  split at h
  · cases h
  · rename_i h1
    rw [if_neg h1]
    split at h
    · cases h
    · rename_i h2
      rw [if_neg h2]
      have hl : ¬ l.length < 1 := fun x => h1 (.inr x)
      refine ⟨by cases bad <;> simp at h1 ⊢, ?_⟩
      match l, hl with
      | [], hl => exact absurd (Nat.zero_lt_one) hl
      | b :: l, _ =>
        have e : valBE ((b :: l).take 1) = b.toNat := valBE_take1 (l := b :: l) (by simp)
        show b :: l = tru (valBE ((b :: l).take 1) == 1) ++ l
        rw [e] at h2 ⊢
        unfold tru
        have hb : b.toNat = 0 ∨ b.toNat = 1 := by omega
        rcases hb with hb | hb
        · rw [hb]
          show b :: l = (0 : UInt8) :: l
          rw [UInt8.toNat_inj.1 (show b.toNat = (0 : UInt8).toNat from hb)]
        · rw [hb]
          show b :: l = (1 : UInt8) :: l
          rw [UInt8.toNat_inj.1 (show b.toNat = (1 : UInt8).toNat from hb)]
theorem mInt_bad (l : List UInt8) (lo hi : Int) : (mInt true l lo hi).1 = true := by unfold mInt; rw [if_pos (.inl rfl)]
theorem mText_bad' (l : List UInt8) (m : Int) : (mText true l m).1 = true := by unfold mText; rw [if_pos (.inl rfl)]

section
variable {α : Type} {q : Bool × List UInt8 × α} {a : α} {r : List UInt8}
theorem nI {n : Int} (e : q = (false, be8 n ++ r, a)) (h : i64ok n) : rI q.1 q.2.1 = (false, r, n) := by rw [e]; exact rI_put n r h
theorem nT {t : List UInt8} {m : Int} (e : q = (false, txt t ++ r, a)) (h1 : (t.length : Int) ≤ m) (h2 : t.length ≤ 65535) : mText q.1 q.2.1 m = (false, r, t) := by rw [e]; exact mText_put t r m h1 h2
theorem nB {b : Bool} (e : q = (false, tru b ++ r, a)) : mBool q.1 q.2.1 = (false, r, b) := by rw [e]; exact mBool_put b r
end

/-! ## Commands -/
structure Cmd where
  kind : Int
  tx : Int
  att : Int
  stamp : Int
  op : Int
  key : List UInt8
  value : List UInt8
  mode : Int
  yes : Bool
def cmdB (c : Cmd) : List UInt8 := be8 c.kind ++ (be8 c.tx ++ (be8 c.att ++ (be8 c.stamp ++ (be8 c.op ++ (txt c.key ++ (txt c.value ++ (be8 c.mode ++ (tru c.yes ++ []))))))))
def Cmd.fits (c : Cmd) : Prop := c.key.length ≤ 16 ∧ c.value.length ≤ 32
def Cmd.i64 (c : Cmd) : Prop := i64ok c.kind ∧ i64ok c.tx ∧ i64ok c.att ∧ i64ok c.stamp ∧ i64ok c.op ∧ i64ok c.mode
def c1 (l : List UInt8) := rI false l
def c2 (l : List UInt8) := rI (c1 l).1 (c1 l).2.1
def c3 (l : List UInt8) := rI (c2 l).1 (c2 l).2.1
def c4 (l : List UInt8) := rI (c3 l).1 (c3 l).2.1
def c5 (l : List UInt8) := rI (c4 l).1 (c4 l).2.1
def c6 (l : List UInt8) := rI (c5 l).1 (c5 l).2.1
def c7 (l : List UInt8) := rI (c6 l).1 (c6 l).2.1
def cK (l : List UInt8) := mText (c5 l).1 (c5 l).2.1 16
def cV (l : List UInt8) := mText (cK l).1 (cK l).2.1 32
def cM (l : List UInt8) := rI (cV l).1 (cV l).2.1
def cY (l : List UInt8) := mBool (cM l).1 (cM l).2.1
def cmdV (l : List UInt8) : Cmd := ⟨(c1 l).2.2, (c2 l).2.2, (c3 l).2.2, (c4 l).2.2, (c5 l).2.2, (cK l).2.2, (cV l).2.2, (cM l).2.2, (cY l).2.2⟩
def cmdR (l : List UInt8) : Option Cmd := if (cY l).1 = false ∧ (cY l).2.1 = [] then some (cmdV l) else none
theorem cmd_put {c : Cmd} (h1 : c.fits) (h2 : c.i64) : cmdR (cmdB c) = some c := by
  obtain ⟨k1, k2⟩ := h1
  obtain ⟨i1, i2, i3, i4, i5, i6⟩ := h2
  generalize hl : cmdB c = l
  have e1 : c1 l = _ := (congrArg c1 hl.symm).trans (rI_put _ _ i1)
  have e2 : c2 l = _ := nI e1 i2
  have e3 : c3 l = _ := nI e2 i3
  have e4 : c4 l = _ := nI e3 i4
  have e5 : c5 l = _ := nI e4 i5
  have e6 : cK l = _ := nT e5 (by omega) (by omega)
  have e7 : cV l = _ := nT e6 (by omega) (by omega)
  have e8 : cM l = _ := nI e7 i6
  have e9 : cY l = _ := nB e8
  unfold cmdR cmdV
  rw [e1, e2, e3, e4, e5, e6, e7, e8, e9]
  rfl
theorem cmd_back {l : List UInt8} {c : Cmd} (h : cmdR l = some c) : c.fits ∧ c.i64 ∧ l = cmdB c := by
  unfold cmdR at h
  split at h
  · rename_i hc
    injection h with h
    subst h
    obtain ⟨h9, hr⟩ := hc
    obtain ⟨h8, e9⟩ := mBool_back h9
    obtain ⟨h7, e8, i6⟩ := rI_back h8
    obtain ⟨h6, e7, k2⟩ := mText_back h7
    obtain ⟨h5, e6, k1⟩ := mText_back h6
    obtain ⟨h4, e5, i5⟩ := rI_back h5
    obtain ⟨h3, e4, i4⟩ := rI_back h4
    obtain ⟨h2, e3, i3⟩ := rI_back h3
    obtain ⟨h1, e2, i2⟩ := rI_back h2
    obtain ⟨_, e1, i1⟩ := rI_back h1
    refine ⟨⟨?_, ?_⟩, ⟨i1, i2, i3, i4, i5, i6⟩, ?_⟩
    · exact Int.ofNat_le.1 k1
    · exact Int.ofNat_le.1 k2
    · refine e1.trans (congrArg _ (e2.trans (congrArg _ (e3.trans (congrArg _ (e4.trans (congrArg _ (e5.trans (congrArg _ (e6.trans (congrArg _ (e7.trans (congrArg _ (e8.trans (congrArg _ (e9.trans (congrArg _ hr)))))))))))))))))
  · cases h
theorem cmd_inj {c d : Cmd} (hc : c.fits) (hc' : c.i64) (hd : d.fits) (hd' : d.i64) (h : cmdB c = cmdB d) : c = d := by
  have h1 := cmd_put hc hc'
  have h2 := cmd_put hd hd'
  rw [h, h2] at h1
  exact (Option.some.inj h1).symm

/-! ## Answers -/
structure Rep where
  code : Int
  state : Int
  value : List UInt8
  has : Bool
def repB (r : Rep) : List UInt8 := be8 r.code ++ (be8 r.state ++ (txt r.value ++ (tru r.has ++ [])))
def Rep.fits (r : Rep) : Prop := r.value.length ≤ 32
def Rep.i64 (r : Rep) : Prop := i64ok r.code ∧ i64ok r.state
def rV (l : List UInt8) := mText (c2 l).1 (c2 l).2.1 32
def rH (l : List UInt8) := mBool (rV l).1 (rV l).2.1
def repV (l : List UInt8) : Rep := ⟨(c1 l).2.2, (c2 l).2.2, (rV l).2.2, (rH l).2.2⟩
def repR (l : List UInt8) : Option Rep := if (rH l).1 = false ∧ (rH l).2.1 = [] then some (repV l) else none
theorem rep_put {r : Rep} (h1 : r.fits) (h2 : r.i64) : repR (repB r) = some r := by
  have k1 : r.value.length ≤ 32 := h1
  obtain ⟨i1, i2⟩ := h2
  generalize hl : repB r = l
  have e1 : c1 l = _ := (congrArg c1 hl.symm).trans (rI_put _ _ i1)
  have e2 : c2 l = _ := nI e1 i2
  have e3 : rV l = _ := nT e2 (by omega) (by omega)
  have e4 : rH l = _ := nB e3
  unfold repR repV
  rw [e1, e2, e3, e4]
  rfl
theorem rep_back {l : List UInt8} {r : Rep} (h : repR l = some r) : r.fits ∧ r.i64 ∧ l = repB r := by
  unfold repR at h
  split at h
  · rename_i hc
    injection h with h
    subst h
    obtain ⟨h4, hr⟩ := hc
    obtain ⟨h3, e4⟩ := mBool_back h4
    obtain ⟨h2, e3, k1⟩ := mText_back h3
    obtain ⟨h1, e2, i2⟩ := rI_back h2
    obtain ⟨_, e1, i1⟩ := rI_back h1
    exact ⟨Int.ofNat_le.1 k1, ⟨i1, i2⟩, e1.trans (congrArg _ (e2.trans (congrArg _ (e3.trans (congrArg _ (e4.trans (congrArg _ hr)))))))⟩
  · cases h

/-! ## Messages -/
def entB (e : Ent) : List UInt8 := be8 e.t ++ txt e.d
def Ent.fits (e : Ent) : Prop := e.d.length ≤ 512
structure Msg where
  kind : Int
  frm : Int
  to : Int
  term : Int
  index : Int
  lterm : Int
  commit : Int
  yes : Bool
  es : List Ent
def msgB (m : Msg) : List UInt8 := be8 m.kind ++ (be8 m.frm ++ (be8 m.to ++ (be8 m.term ++ (be8 m.index ++ (be8 m.lterm ++ (be8 m.commit ++ (tru m.yes ++ (be8 (m.es.length : Int) ++ (m.es.flatMap entB ++ [])))))))))
def Msg.fits (m : Msg) : Prop := m.es.length ≤ 8 ∧ ∀ e ∈ m.es, e.fits
def Msg.i64 (m : Msg) : Prop := i64ok m.kind ∧ i64ok m.frm ∧ i64ok m.to ∧ i64ok m.term ∧ i64ok m.index ∧ i64ok m.lterm ∧ i64ok m.commit ∧ ∀ e ∈ m.es, i64ok e.t
def entT (bad : Bool) (l : List UInt8) := mText (rI bad l).1 (rI bad l).2.1 512
def entsM : Nat → Bool → List UInt8 → List Ent → Bool × List UInt8 × List Ent
  | 0, bad, l, acc => (bad, l, acc)
  | n + 1, bad, l, acc => entsM n (entT bad l).1 (entT bad l).2.1 (acc ++ [⟨(rI bad l).2.2, (entT bad l).2.2⟩])
theorem entT_bad (l : List UInt8) : (entT true l).1 = true := by unfold entT rI; rw [mInt_bad]; exact mText_bad' _ _
theorem entsM_bad : ∀ (n : Nat) (l : List UInt8) (acc : List Ent), (entsM n true l acc).1 = true
  | 0, _, _ => rfl
  | n + 1, l, acc => by unfold entsM; rw [entT_bad]; exact entsM_bad n _ _
theorem entsM_put : ∀ (es : List Ent) (rest : List UInt8) (acc : List Ent), (∀ e ∈ es, e.fits) → (∀ e ∈ es, i64ok e.t) → entsM es.length false (es.flatMap entB ++ rest) acc = (false, rest, acc ++ es)
  | [], rest, acc, _, _ => by simp [entsM]
  | e :: es, rest, acc, h1, h2 => by
    have k1 : e.d.length ≤ 512 := h1 e (List.mem_cons_self ..)
    have e0 : (e :: es).flatMap entB ++ rest = be8 e.t ++ (txt e.d ++ (es.flatMap entB ++ rest)) := by simp [entB]
    rw [e0]
    have e1 : rI false (be8 e.t ++ (txt e.d ++ (es.flatMap entB ++ rest))) = (false, _, e.t) := rI_put _ _ (h2 e (List.mem_cons_self ..))
    have e2 : entT false (be8 e.t ++ (txt e.d ++ (es.flatMap entB ++ rest))) = _ := nT e1 (by omega) (by omega)
    show entsM (es.length + 1) _ _ _ = _
    unfold entsM
    rw [e1, e2, entsM_put es rest _ (fun x hx => h1 x (List.mem_cons_of_mem _ hx)) fun x hx => h2 x (List.mem_cons_of_mem _ hx)]
    simp
theorem entsM_back : ∀ (n : Nat) (bad : Bool) (l : List UInt8) (acc : List Ent), (entsM n bad l acc).1 = false → bad = false ∧ ∃ es : List Ent, (entsM n bad l acc).2.2 = acc ++ es ∧ es.length = n ∧ l = es.flatMap entB ++ (entsM n bad l acc).2.1 ∧ (∀ e ∈ es, e.fits) ∧ ∀ e ∈ es, i64ok e.t
  | 0, bad, l, acc, h => ⟨h, [], by simp [entsM], rfl, rfl, (by simp), by simp⟩
  | n + 1, bad, l, acc, h => by
    unfold entsM at h ⊢
    obtain ⟨h1, es, e1, e2, e3, e4, e5⟩ := entsM_back n _ _ _ h
    obtain ⟨h2, e6, k6⟩ := mText_back h1
    obtain ⟨h3, e7, i7⟩ := rI_back h2
    refine ⟨h3, ⟨(rI bad l).2.2, (entT bad l).2.2⟩ :: es, by rw [e1]; simp, by simp [e2], ?_, ?_, ?_⟩
    · refine e7.trans ?_
      rw [List.flatMap_cons, List.append_assoc]
      show _ = (be8 _ ++ txt _) ++ _
      rw [List.append_assoc]
      exact congrArg _ (e6.trans (congrArg _ e3))
    · intro e he
      rcases List.mem_cons.1 he with rfl | he
      · exact Int.ofNat_le.1 k6
      · exact e4 e he
    · intro e he
      rcases List.mem_cons.1 he with rfl | he
      · exact i7
      · exact e5 e he
def mY (l : List UInt8) := mBool (c7 l).1 (c7 l).2.1
def mN (l : List UInt8) := mInt (mY l).1 (mY l).2.1 0 8
def mE (l : List UInt8) := entsM (mN l).2.2.toNat (mN l).1 (mN l).2.1 []
def msgV (l : List UInt8) : Msg := ⟨(c1 l).2.2, (c2 l).2.2, (c3 l).2.2, (c4 l).2.2, (c5 l).2.2, (c6 l).2.2, (c7 l).2.2, (mY l).2.2, (mE l).2.2⟩
def msgR (l : List UInt8) : Option Msg := if (mE l).1 = false ∧ (mE l).2.1 = [] then some (msgV l) else none
theorem msg_put {m : Msg} (h1 : m.fits) (h2 : m.i64) : msgR (msgB m) = some m := by
  obtain ⟨k1, k2⟩ := h1
  obtain ⟨i1, i2, i3, i4, i5, i6, i7, i8⟩ := h2
  generalize hl : msgB m = l
  have e1 : c1 l = _ := (congrArg c1 hl.symm).trans (rI_put _ _ i1)
  have e2 : c2 l = _ := nI e1 i2
  have e3 : c3 l = _ := nI e2 i3
  have e4 : c4 l = _ := nI e3 i4
  have e5 : c5 l = _ := nI e4 i5
  have e6 : c6 l = _ := nI e5 i6
  have e7 : c7 l = _ := nI e6 i7
  have e8 : mY l = _ := nB e7
  have e9 : mN l = (false, m.es.flatMap entB ++ [], (m.es.length : Int)) := by unfold mN; rw [e8]; exact mInt_put _ _ _ _ ⟨by omega, by omega⟩ ⟨by omega, by omega⟩
  have e10 : mE l = (false, [], m.es) := by
    unfold mE; rw [e9]
    have := entsM_put m.es [] [] k2 i8
    rw [List.nil_append] at this
    exact this
  unfold msgR msgV
  rw [e1, e2, e3, e4, e5, e6, e7, e8, e10]
  rfl
theorem msg_back {l : List UInt8} {m : Msg} (h : msgR l = some m) : m.fits ∧ m.i64 ∧ l = msgB m := by
  unfold msgR at h
  split at h
  · rename_i hc
    injection h with h
    subst h
    obtain ⟨h10, hr⟩ := hc
    obtain ⟨h9, es, q1, q2, q3, q4, q5⟩ := entsM_back _ _ _ _ h10
    obtain ⟨_, b1, b2⟩ := mInt_ok h9
    obtain ⟨h8, e9, _⟩ := mInt_back h9
    obtain ⟨h7, e8⟩ := mBool_back h8
    obtain ⟨h6, e7, i7⟩ := rI_back h7
    obtain ⟨h5, e6, i6⟩ := rI_back h6
    obtain ⟨h4, e5, i5⟩ := rI_back h5
    obtain ⟨h3, e4, i4⟩ := rI_back h4
    obtain ⟨h2, e3, i3⟩ := rI_back h3
    obtain ⟨h1, e2, i2⟩ := rI_back h2
    obtain ⟨_, e1, i1⟩ := rI_back h1
    have qe : (mE l).2.2 = es := q1
    have qn : ((mE l).2.2.length : Int) = (mN l).2.2 := by
      have b1' : 0 ≤ (mN l).2.2 := b1
      rw [qe, q2]; exact Int.toNat_of_nonneg b1'
    have b2' : (mN l).2.2 ≤ 8 := b2
    refine ⟨⟨?_, ?_⟩, ⟨i1, i2, i3, i4, i5, i6, i7, ?_⟩, ?_⟩
    · show (mE l).2.2.length ≤ 8
      omega
    · show ∀ e ∈ (mE l).2.2, e.fits
      rw [qe]; exact q4
    · show ∀ e ∈ (mE l).2.2, i64ok e.t
      rw [qe]; exact q5
    · refine e1.trans (congrArg _ (e2.trans (congrArg _ (e3.trans (congrArg _ (e4.trans (congrArg _ (e5.trans (congrArg _ (e6.trans (congrArg _ (e7.trans (congrArg _ (e8.trans (congrArg _ (e9.trans ?_))))))))))))))))
      show be8 (mN l).2.2 ++ (mN l).2.1 = be8 ((mE l).2.2.length : Int) ++ ((mE l).2.2.flatMap entB ++ [])
      rw [qn, qe]
      exact congrArg _ (q3.trans (congrArg _ hr))
  · cases h
end Go.Proofs.YtniojdaddolnfaaGreat

/-
  Layer 10 (group), plain: nodes, disks, messages under way, and what each step does.
-/
namespace Go.Proofs.YtniojdaddolnfaaGreat

def toE (e : RE) : Ent := ⟨e.term, e.data.data.toList⟩
def sttOf (X : RN) : Stt := ⟨X.term, X.vote, X.log.map toE⟩
def savedL (X : RN) : List RE := if X.from_ > 0 then fromL X.log X.from_ 1024 else []
def savOf (X : RN) : Sav := ⟨X.hard, X.term, X.vote, X.from_, (savedL X).map toE⟩
def gSave (X : RN) : List WRec := if X.hard = false ∧ X.from_ = 0 then [] else savR (savOf X)
/-- Records that are written, one by one, while there is room. -/
def wrM : List UInt8 → List WRec → List UInt8 × Bool
  | b, [] => (b, true)
  | b, r :: rs => if b.length + (recM r).length > 1048576 then (b, false) else wrM (b ++ recM r) rs
def rClean (X : RN) : RN := { X with out := [], hard := false, from_ := 0 }
structure GN where
  node : Option RN
  b : List UInt8
  n : Nat
structure GS where
  l : List GN
  net : List RM
structure ST where
  kind : Int
  node : Int
  i : Int
  draw : Int
  keep : Int
  at_ : Int
  by_ : UInt8
  data : ByteArray
def gComes (G : GS) (i : Nat) (q : GN) (Y : RN) (e : Int) : GS × Int :=
  if (wrM q.b (gSave Y)).2 = true then (⟨G.l.set i ⟨some (rClean Y), (wrM q.b (gSave Y)).1, (wrM q.b (gSave Y)).1.length⟩, (G.net ++ Y.out).take 512⟩, e)
  else (⟨G.l.set i ⟨none, (wrM q.b (gSave Y)).1, q.n⟩, G.net⟩, 7)
def toR (e : Ent) : RE := ⟨e.t, strB e.d⟩
def gBack (k : Int) (i : Nat) (st : Stt) : RN := rNew i k 4 2 st.term st.vote (st.es.map toR)
def gRestart (G : GS) (i : Nat) (q : GN) : GS × Int :=
  match playM (walR q.b).1 with
  | none => (⟨G.l.set i ⟨none, q.b.take (walR q.b).2.1, (walR q.b).2.1⟩, G.net⟩, 2)
  | some st => (⟨G.l.set i ⟨some (gBack G.l.length i st), q.b.take (walR q.b).2.1, (walR q.b).2.1⟩, G.net⟩, 0)
def gNode (G : GS) (s : ST) : GS × Int :=
  if s.node < 0 then (G, 6) else
  match G.l[s.node.toNat]? with
  | none => (G, 6)
  | some q => match q.node with
    | none => if s.kind = 7 then gRestart G s.node.toNat q else (G, 12)
    | some X =>
      if s.kind = 7 then (G, 8)
      else if s.kind = 1 then gComes G s.node.toNat q (rTick X s.draw) 0
      else if s.kind = 5 then gComes G s.node.toNat q (rPropose X s.data).1 (rPropose X s.data).2.2
      else (⟨G.l.set s.node.toNat ⟨none, crashL q.b q.n s.keep s.at_ s.by_, q.n⟩, G.net⟩, 0)
/-- A message that was taken out comes to its node, or tears it down. -/
def gCome (G : GS) (m : RM) (s : ST) : GS × Int :=
  if m.to < 0 then (G, 12) else
  match G.l[m.to.toNat]? with
  | none => (G, 12)
  | some q => match q.node with
    | none => (G, 12)
    | some X =>
      if s.kind = 2 then gComes G m.to.toNat q (rStepF X m) 0
      else (⟨G.l.set m.to.toNat ⟨none, crashL (wrM q.b (gSave (rStepF X m))).1 q.n s.keep s.at_ s.by_, q.n⟩, G.net⟩, 0)
def gMsg (G : GS) (s : ST) : GS × Int :=
  if s.i < 0 then (G, 6) else
  match G.net[s.i.toNat]? with
  | none => (G, 6)
  | some m =>
    if s.kind = 4 then (if G.net.length ≥ 512 then (G, 7) else (⟨G.l, G.net ++ [m]⟩, 0))
    else if s.kind = 3 then (⟨G.l, G.net.eraseIdx s.i.toNat⟩, 0)
    else gCome ⟨G.l, G.net.eraseIdx s.i.toNat⟩ m s
def gDo (G : GS) (s : ST) : GS × Int :=
  if s.kind = 1 ∨ (5 ≤ s.kind ∧ s.kind ≤ 7) then gNode G s
  else if 2 ≤ s.kind ∧ s.kind ≤ 8 then gMsg G s
  else (G, 1)
def gRun (G : GS) (l : List ST) : GS := l.foldl (fun G s => (gDo G s).1) G
def gNew (k : Nat) : GS := ⟨(List.range k).map fun (i : Nat) => ⟨some (rNew i k 4 2 0 (-1) []), [], 0⟩, []⟩
theorem wrM_take (rs : List WRec) : ∀ b : List UInt8, ∃ j, j ≤ rs.length ∧ (wrM b rs).1 = b ++ recsM (rs.take j) ∧ ((wrM b rs).2 = true ↔ j = rs.length) ∧ (b.length ≤ 1048576 → (wrM b rs).1.length ≤ 1048576) := by
  induction rs with
  | nil => intro b; exact ⟨0, Nat.le_refl _, by show b = b ++ []; simp, ⟨fun _ => rfl, fun _ => rfl⟩, fun h => h⟩
  | cons r rs ih =>
    intro b
    unfold wrM
    split
    · exact ⟨0, Nat.zero_le _, by show b = b ++ []; simp, ⟨fun h => (by cases h), fun h => (by simp at h)⟩, fun h => h⟩
    · obtain ⟨j, h1, h2, h3, h4⟩ := ih (b ++ recM r)
      refine ⟨j + 1, by simp; omega, ?_, ?_, fun h => h4 (by rw [List.length_append]; omega)⟩
      · rw [h2, List.take_succ_cons, recsM_cons, List.append_assoc]
      · rw [h3]; simp
/-! ## What is written is what is played -/
theorem toR_toE (e : RE) : toR (toE e) = e := by
  cases e; rfl
theorem map_toR_toE (l : List RE) : (l.map toE).map toR = l := by
  rw [List.map_map]
  conv => rhs; rw [← List.map_id l]
  exact List.map_congr_left fun e _ => toR_toE e
theorem rise_take {es : List Ent} {term : Int} : ∀ (l : List RE) (a : Int), (∀ e ∈ l, e.data.size ≤ 512 ∧ e.term ≤ term) → (∀ e ∈ l, a ≤ e.term) → Mono l → rightE term a (l.map toE) = true
  | [], _, _, _, _ => rfl
  | e :: l, a, h1, h2, hm => by
    rw [List.map_cons, rightE]
    have h3 := h1 e (List.mem_cons_self ..)
    have h4 := h2 e (List.mem_cons_self ..)
    rw [if_neg (by show ¬ (e.term < a ∨ term < e.term ∨ 512 < ((e.data.data.toList).length : Int)); rw [Array.length_toList]; have : e.data.data.size = e.data.size := rfl; omega)]
    obtain ⟨h5, h6⟩ := List.pairwise_cons.1 hm
    exact rise_take (es := es) l e.term (fun x hx => h1 x (List.mem_cons_of_mem _ hx)) (fun x hx => h5 x hx) h6
/-- A state that may be. -/
structure RtS (T vt : Int) (l : List RE) : Prop where
  t0 : 0 ≤ T
  t1 : T ≤ 1099511627776
  v0 : -1 ≤ vt
  v1 : vt < 7
  n : l.length ≤ 1024
  d : ∀ e ∈ l, e.data.size ≤ 512
  ter : Ter l T
  mono : Mono l
theorem RtS.right {T vt : Int} {l : List RE} (h : RtS T vt l) : rightM ⟨T, vt, l.map toE⟩ = true := by
  unfold rightM
  rw [if_neg (by
    show ¬ (T < 0 ∨ 1099511627776 < T ∨ vt < -1 ∨ 6 < vt ∨ 1024 < (l.map toE).length)
    rw [List.length_map]
    have := h.t0; have := h.t1; have := h.v0; have := h.v1; have := h.n
    omega)]
  exact rise_take (es := []) l 1 (fun e he => ⟨h.d e he, (h.ter e he).2⟩) (fun e he => (h.ter e he).1) h.mono
theorem RtS.okS {T vt : Int} {l : List RE} (h : RtS T vt l) : okS T vt l := by
  refine ⟨?_, h.t0, h.t1, h.v0, h.v1, h.n⟩
  have : ∀ (l : List RE) (a : Int), (∀ e ∈ l, e.data.size ≤ 512 ∧ e.term ≤ T) → (∀ e ∈ l, a ≤ e.term) → Mono l → riseR T a l := by
    intro l
    induction l with
    | nil => intro a _ _ _; trivial
    | cons e l ih =>
      intro a h1 h2 hm
      obtain ⟨h5, h6⟩ := List.pairwise_cons.1 hm
      have h3 := h1 e (List.mem_cons_self ..)
      have h4 := h2 e (List.mem_cons_self ..)
      exact ⟨by omega, by omega, h3.1, ih e.term (fun x hx => h1 x (List.mem_cons_of_mem _ hx)) (fun x hx => h5 x hx) h6⟩
  exact this l 1 (fun e he => ⟨h.d e he, (h.ter e he).2⟩) (fun e he => (h.ter e he).1) h.mono
theorem step_vote {s : Stt} {T vt : Int} (h0 : 0 ≤ T) (h1 : T ≤ 1099511627776) (h2 : -1 ≤ vt) (h3 : vt < 7) : stepM s ⟨1, be8 T ++ be8 vt⟩ = some ⟨T, vt, s.es⟩ := by
  unfold stepM
  have e1 : vT (be8 T ++ be8 vt) = (false, be8 vt, T) := by unfold vT; exact mInt_put T _ _ _ (by unfold i64ok; omega) (by omega)
  have e2 : vV (be8 T ++ be8 vt) = (false, [], vt) := by
    unfold vV
    rw [e1]
    have := mInt_put vt [] (-1) 6 (by unfold i64ok; omega) (by omega)
    rwa [List.append_nil] at this
  rw [if_pos rfl, e1, e2, if_pos ⟨rfl, rfl⟩]
theorem step_entry {s : Stt} {i : Int} {e : Ent} (h0 : 1 ≤ i) (h1 : i ≤ s.es.length + 1) (h2 : 1 ≤ e.t) (h3 : e.t ≤ 1099511627776) (h4 : e.d.length ≤ 512) (hl : s.es.length ≤ 100000) :
    stepM s ⟨2, be8 i ++ be8 e.t ++ txt e.d⟩ = some ⟨s.term, s.vote, s.es.take (i - 1).toNat ++ [e]⟩ := by
  unfold stepM
  rw [List.append_assoc]
  have e1 : eI s.es.length (be8 i ++ (be8 e.t ++ txt e.d)) = (false, be8 e.t ++ txt e.d, i) := by unfold eI; exact mInt_put i _ _ _ (by unfold i64ok; omega) (by omega)
  have e2 : eT s.es.length (be8 i ++ (be8 e.t ++ txt e.d)) = (false, txt e.d, e.t) := by
    unfold eT; rw [e1]
    exact mInt_put e.t _ _ _ (by unfold i64ok; omega) (by omega)
  have e3 : eD s.es.length (be8 i ++ (be8 e.t ++ txt e.d)) = (false, [], e.d) := by
    unfold eD; rw [e2]
    have := mText_put e.d [] 512 (by omega) (by omega)
    rwa [List.append_nil] at this
  rw [if_neg (show ¬ ((2 : UInt8) = 1) by decide), if_pos rfl, e1, e2, e3, if_pos ⟨rfl, rfl⟩]
/-- Entries that are played, one behind the other. -/
theorem play_tail {f : Int} {p : Nat} (hf : f = (p : Int) + 1) : ∀ (es : List Ent) (k : Nat) (s : Stt), s.es.length = p + k → s.es.length + es.length ≤ 5000 → (∀ e ∈ es, 1 ≤ e.t ∧ e.t ≤ 1099511627776 ∧ e.d.length ≤ 512) →
    playF s (es.mapIdx fun j e => entR f (j + k) e) = some ⟨s.term, s.vote, s.es ++ es⟩
  | [], k, s, _, _, _ => by rw [List.mapIdx_nil, playF, List.append_nil]
  | e :: es, k, s, h1, h2, h3 => by
    obtain ⟨a, b, c⟩ := h3 e (List.mem_cons_self ..)
    simp only [List.length_cons] at h2
    rw [List.mapIdx_cons]
    have hw : IntKind.i64.wrap (f + ((0 + k : Nat) : Int)) = f + k := by rw [w64 (by omega) (by omega)]; omega
    have e1 : stepM s (entR f (0 + k) e) = some ⟨s.term, s.vote, s.es ++ [e]⟩ := by
      unfold entR
      rw [hw, step_entry (by omega) (by omega) a b c (by omega)]
      rw [List.take_of_length_le (by omega)]
    unfold playF
    rw [e1]
    simp only
    have e2 : (fun j e => entR f (j + 1 + k) e) = fun j e => entR f (j + (k + 1)) e := by funext j e; rw [show j + 1 + k = j + (k + 1) by omega]
    rw [e2, play_tail hf es (k + 1) _ (by rw [List.length_append, List.length_singleton]; omega) (by rw [List.length_append, List.length_singleton]; omega) fun x hx => h3 x (List.mem_cons_of_mem _ hx)]
    rw [List.append_assoc]; rfl
theorem play_head {f : Int} {p : Nat} (hf : f = (p : Int) + 1) (e : Ent) (es : List Ent) (s : Stt) (hp : p ≤ s.es.length) (hl : s.es.length + es.length ≤ 4000) (h3 : ∀ x ∈ e :: es, 1 ≤ x.t ∧ x.t ≤ 1099511627776 ∧ x.d.length ≤ 512) :
    playF s ((e :: es).mapIdx (entR f)) = some ⟨s.term, s.vote, s.es.take p ++ (e :: es)⟩ := by
  obtain ⟨a, b, c⟩ := h3 e (List.mem_cons_self ..)
  rw [List.mapIdx_cons]
  have hw : IntKind.i64.wrap (f + ((0 : Nat) : Int)) = f := by rw [w64 (by omega) (by omega)]; omega
  have e1 : stepM s (entR f 0 e) = some ⟨s.term, s.vote, s.es.take p ++ [e]⟩ := by
    unfold entR
    rw [hw, step_entry (by omega) (by omega) a b c (by omega), show (f - 1).toNat = p by omega]
  unfold playF
  rw [e1]
  simp only
  have hl2 : (s.es.take p ++ [e]).length = p + 1 := by rw [List.length_append, List.length_take, List.length_singleton]; omega
  rw [play_tail hf es 1 _ hl2 (by rw [hl2]; omega) fun x hx => h3 x (List.mem_cons_of_mem _ hx)]
  rw [List.append_assoc]; rfl
theorem mapIdx_take {α β : Type} (f : Nat → α → β) (l : List α) (n : Nat) : (l.mapIdx f).take n = (l.take n).mapIdx f := by
  refine List.ext_getElem? fun i => ?_
  by_cases h : i < n
  · rw [List.getElem?_take_of_lt h, List.getElem?_mapIdx, List.getElem?_mapIdx, List.getElem?_take_of_lt h]
  · rw [List.getElem?_eq_none (by rw [List.length_take]; omega), List.getElem?_mapIdx, List.getElem?_eq_none (by rw [List.length_take]; omega)]; rfl
/-- What a node's log and state are, as far as their size goes. -/
structure Sz (X : RN) : Prop where
  t0 : 0 ≤ X.term
  t1 : X.term ≤ 1099511627776
  v0 : -1 ≤ X.vote
  v1 : X.vote < 7
  n : X.log.length ≤ 1024
  d : ∀ e ∈ X.log, e.data.size ≤ 512
theorem BN.sz {S o : Nat} {X : RN} (h : BN S o X) : Sz X := ⟨h.t.1, h.t.2, h.vt.1, h.vt.2, h.l, h.ld⟩
theorem saved_eq {X : RN} (h : 0 < X.from_) (hl : X.log.length ≤ 1024) : savedL X = X.log.drop (X.from_.toNat - 1) := by
  unfold savedL fromL
  rw [if_pos h, show (if 1 > X.from_ then 1 else X.from_) = X.from_ by split <;> omega]
  rw [List.take_of_length_le]
  rw [List.length_drop]; omega
theorem size_toE (e : RE) : (toE e).d.length = e.data.size := Array.length_toList
/-- Parts of a save, played behind what is there. -/
theorem play_part {X Y : RN} (sv : SV X Y) (zx : Sz X) (zy : Sz Y) (ht : Ter Y.log Y.term) {j : Nat} (hj : j ≤ (gSave Y).length) :
    ∃ T vt l, playF (sttOf X) ((gSave Y).take j) = some ⟨T, vt, l.map toE⟩ ∧ Part X Y T vt l ∧ (j = (gSave Y).length → T = Y.term ∧ vt = Y.vote ∧ l = Y.log) ∧ (j < (gSave Y).length → (savedL Y).length ≤ 1 → (T = X.term ∧ vt = X.vote ∧ l = X.log) ∨ (Y.hard = true ∧ T = Y.term ∧ vt = Y.vote ∧ l = X.log)) := by
  have f0 := sv.f0
  unfold gSave at hj ⊢
  by_cases hno : Y.hard = false ∧ Y.from_ = 0
  · rw [if_pos hno] at hj ⊢
    obtain ⟨h1, h2⟩ := sv.hard hno.1
    have h3 := sv.none hno.2
    have : j = 0 := by simpa using hj
    subst this
    exact ⟨X.term, X.vote, X.log, rfl, .inl ⟨rfl, rfl, rfl⟩, fun _ => ⟨h1.symm, h2.symm, h3.symm⟩, fun h => by simp at h⟩
  rw [if_neg hno] at hj ⊢
  -- the entries alone, behind a state of this log
  have ents : ∀ (T vt : Int) (q : Nat), q ≤ (savedL Y).length → ∃ l, playF ⟨T, vt, X.log.map toE⟩ ((((savedL Y).map toE).mapIdx (entR Y.from_)).take q) = some ⟨T, vt, l.map toE⟩ ∧ (q = 0 → l = X.log) ∧ (0 < q → 0 < Y.from_ ∧ l = Y.log.take (Y.from_.toNat - 1 + q)) := fun T vt q hq => by
    rcases Nat.eq_zero_or_pos q with h0 | h0
    · subst h0
      exact ⟨X.log, by rw [List.take_zero]; rfl, fun _ => rfl, fun h => absurd h (Nat.lt_irrefl _)⟩
    · have hf : 0 < Y.from_ := by
        rcases Int.lt_or_eq_of_le f0 with x | x
        · exact x
        · unfold savedL at hq
          rw [if_neg (by omega)] at hq
          simp at hq
          omega
      obtain ⟨n1, n2, n3⟩ := sv.new hf
      have hse := saved_eq hf zy.n
      rw [hse, List.length_drop] at hq
      refine ⟨Y.log.take (Y.from_.toNat - 1 + q), ?_, fun h => by omega, fun _ => ⟨hf, rfl⟩⟩
      rw [mapIdx_take, hse, ← List.map_take]
      have hne : 0 < ((Y.log.drop (Y.from_.toNat - 1)).take q).length := by rw [List.length_take, List.length_drop]; omega
      have hsub : ∀ x ∈ (Y.log.drop (Y.from_.toNat - 1)).take q, x ∈ Y.log := fun x hx => List.mem_of_mem_drop (List.mem_of_mem_take hx)
      have hlen : ((Y.log.drop (Y.from_.toNat - 1)).take q).length ≤ 1024 := by
        have := zy.n
        rw [List.length_take, List.length_drop]; omega
      have hap : X.log.take (Y.from_.toNat - 1) ++ (Y.log.drop (Y.from_.toNat - 1)).take q = Y.log.take (Y.from_.toNat - 1 + q) := by rw [← n3, ← List.take_add]
      generalize (Y.log.drop (Y.from_.toNat - 1)).take q = es at *
      cases es with
      | nil => simp at hne
      | cons e es =>
        have := zx.n
        simp only [List.length_cons] at hlen
        rw [List.map_cons, play_head (p := Y.from_.toNat - 1) (by omega) (toE e) (es.map toE) _ (by show _ ≤ (X.log.map toE).length; rw [List.length_map]; omega) (by show (X.log.map toE).length + _ ≤ _; rw [List.length_map, List.length_map]; omega) ?_]
        · show some (Stt.mk T vt ((X.log.map toE).take _ ++ _)) = _
          rw [← List.map_cons, ← List.map_take, ← List.map_append, hap]
        · intro x hx
          rw [← List.map_cons] at hx
          obtain ⟨y, hy, rfl⟩ := List.mem_map.1 hx
          have h1 := ht y (hsub y hy)
          have h2 := zy.d y (hsub y hy)
          have h3 := zy.t1
          exact ⟨h1.1, by show y.term ≤ _; omega, by rw [size_toE]; exact h2⟩
  have hfl : 0 < Y.from_ → (savedL Y).length = Y.log.length - (Y.from_.toNat - 1) ∧ Y.from_.toNat ≤ Y.log.length := fun hf => by
    obtain ⟨n1, n2, n3⟩ := sv.new hf
    rw [saved_eq hf zy.n, List.length_drop]
    omega
  have hfz : Y.from_ = 0 → (savedL Y).length = 0 := fun e => by unfold savedL; rw [if_neg (by omega)]; rfl
  have hmap : (((savedL Y).map toE).mapIdx (entR Y.from_)).length = (savedL Y).length := by rw [List.length_mapIdx, List.length_map]
  have full : ∀ (q : Nat) (l : List RE), q = (savedL Y).length → (q = 0 → l = X.log) → (0 < q → 0 < Y.from_ ∧ l = Y.log.take (Y.from_.toNat - 1 + q)) → l = Y.log := fun q l hq h1 h2 => by
    rcases Nat.eq_zero_or_pos q with h0 | h0
    · rw [h1 h0]
      rcases Int.lt_or_eq_of_le f0 with x | x
      · have := hfl x; omega
      · exact (sv.none x.symm).symm
    · obtain ⟨h3, h4⟩ := h2 h0
      have := hfl h3
      rw [h4, List.take_of_length_le (by omega)]
  unfold savR at hj ⊢
  cases hh : Y.hard with
  | false =>
    obtain ⟨h1, h2⟩ := sv.hard hh
    have e0 : (if (savOf Y).hard = true then [(⟨1, be8 (savOf Y).term ++ be8 (savOf Y).vote⟩ : WRec)] else []) ++ (savOf Y).es.mapIdx (entR (savOf Y).frm) = ((savedL Y).map toE).mapIdx (entR Y.from_) := by
      show (if Y.hard = true then _ else _) ++ _ = _
      rw [if_neg (by rw [hh]; decide)]; rfl
    rw [e0] at hj ⊢
    rw [hmap] at hj ⊢
    obtain ⟨l, h3, h4, h5⟩ := ents X.term X.vote j hj
    refine ⟨X.term, X.vote, l, h3, ?_, fun hf => ⟨h1.symm, h2.symm, full j l hf h4 h5⟩, fun h6 h7 => .inl ⟨rfl, rfl, h4 (by omega)⟩⟩
    rcases Nat.eq_zero_or_pos j with h0 | h0
    · exact .inl ⟨rfl, rfl, h4 h0⟩
    · exact .inr (.inr ⟨(h5 h0).1, h1.symm, h2.symm, _, (by omega), (h5 h0).2⟩)
  | true =>
    have e0 : (if (savOf Y).hard = true then [(⟨1, be8 (savOf Y).term ++ be8 (savOf Y).vote⟩ : WRec)] else []) ++ (savOf Y).es.mapIdx (entR (savOf Y).frm) = ⟨1, be8 Y.term ++ be8 Y.vote⟩ :: ((savedL Y).map toE).mapIdx (entR Y.from_) := by
      show (if Y.hard = true then _ else _) ++ _ = _
      rw [if_pos hh]; rfl
    rw [e0] at hj ⊢
    rw [List.length_cons, hmap] at hj ⊢
    cases j with
    | zero => exact ⟨X.term, X.vote, X.log, by rw [List.take_zero]; rfl, .inl ⟨rfl, rfl, rfl⟩, fun h => by omega, fun _ _ => .inl ⟨rfl, rfl, rfl⟩⟩
    | succ q =>
      obtain ⟨l, h3, h4, h5⟩ := ents Y.term Y.vote q (by omega)
      refine ⟨Y.term, Y.vote, l, ?_, ?_, fun hf => ⟨rfl, rfl, full q l (by omega) h4 h5⟩, fun h6 h7 => .inr ⟨rfl, rfl, rfl, h4 (by omega)⟩⟩
      · rw [List.take_succ_cons, playF, step_vote zy.t0 zy.t1 zy.v0 zy.v1]
        exact h3
      · rcases Nat.eq_zero_or_pos q with h0 | h0
        · exact .inr (.inl ⟨hh, rfl, rfl, h4 h0⟩)
        · exact .inr (.inr ⟨(h5 h0).1, rfl, rfl, _, (by omega), (h5 h0).2⟩)
theorem gSave_ok {Y : RN} (hd : ∀ e ∈ Y.log, e.data.size ≤ 512) : ∀ r ∈ gSave Y, r.ok := by
  intro r hr
  unfold gSave at hr
  split at hr
  · cases hr
  · refine (savR_ok (s := savOf Y) (fun e he => ?_) r hr).1
    obtain ⟨x, hx, rfl⟩ := List.mem_map.1 he
    rw [size_toE]
    have hx2 : x ∈ Y.log := by
      unfold savedL at hx
      split at hx
      · exact fromL_mem hx
      · cases hx
    have := hd x hx2
    omega
end Go.Proofs.YtniojdaddolnfaaGreat

/- Printed by a program: what each function asks of the heap, that this is the reading of its code, and what follows for a call. -/
set_option maxRecDepth 1000000
namespace Go.Proofs.YtniojdaddolnfaaGreat
open Go

theorem useG_SZ {an : List (Nat × Slots)} {f : FuncId} {fn : Func} {args : List Value} {h : Heap} {ss : List Sh} {R : TH (Heap → Prop) ss} {S : Prop} (hf : Tryz.prog.funcs[f]? = some fn) (hb : codeOk fn args.length = true) (e : VG Tryz.prog an fn args h ss R = S) (hs : S) : CallR Tryz.prog f args h ss R := VG_sound (an := an) mixed_ hf hb (cast e.symm hs)
/-- group.New -/
def S_group_New (n : Int) (h : Heap) (R : Option Addr → Heap → Prop) : Prop :=
  Join [.one .bool] (fun _ (x12 : Bool) h_ =>
    (bif x12 then
      R none h_
    else
      C_net_New_api_Message  h_ fun (r : Option Addr) h_1 =>
      Alloc h_1 (.cells #[.slice none 0 0, .pointer r] 62) fun p h_2 =>
      Loop [.one (.int .i64)] (fun _ (x17 : Int) h_3 go =>
        (bif decide (x17 < n) then
          C_raft_New x17 n 4 2 (0, -1, ⟨none, 0, 0⟩, ()) h_3 fun (r1 : Option Addr) (r2 : Int) h_4 =>
          Nn (some p) fun p1 =>
          Ld .sl h_4 p1 fun (l : Sl) =>
          C_disk_New  h_4 fun (r3 : Option Addr) h_5 =>
          (Ld .sl h_5 p1 fun (l1 : Sl) => (.slice l1.a l1.n l1.c : Value) = .slice l.a l.n l.c) ∧
          Alloc h_5 (.cells #[.pointer r3, .pointer r1] 67) fun b h_6 =>
          (Ld .sl h_6 p1 fun (l2 : Sl) => (.slice l2.a l2.n l2.c : Value) = .slice l.a l.n l.c) ∧
          App Tryz.prog 60 60 l ⟨some b, 1, 1⟩ h_6 fun s h_7 =>
          Nn (some p) fun p2 =>
          St h_7 p2 (.slice s.a s.n s.c) fun h_8 =>
          go (IntKind.i64.wrap (x17 + 1)) h_8
        else
          R (some p) h_3
        )
        ) (0, ()) h_2
    )
    ) fun J =>
  (bif decide (n < 1) then
    J true h
  else
    J (decide (n > 7)) h
  )
theorem E_group_New (n : Int) (h : Heap) (R : Option Addr → Heap → Prop) :
    VF Tryz.prog [(12, [(12, .one .bool)]), (122, [(17, .one (.int .i64))])] Tryz.f10 [.int .i64 n] h [.one .ptr] R = S_group_New n h R := by kernel_rfl
theorem A_group_New {n : Int} {h : Heap} {R : Option Addr → Heap → Prop} (hs : S_group_New n h R) : C_group_New n h R :=
  use_ Tryz.func10 (by kernel_rfl) (E_group_New n h R) hs

/-- (*group.Group).Do -/
def S_group_Group_Do (g : Option Addr) (s : KL [.int .i64, .int .i64, .int .i64, .int .i64, .int .i64, .int .i64, .int .u8, .str]) (h : Heap) (R : Int → Heap → Prop) : Prop :=
  Alloc h (.cells #[.int .i64 s.1, .int .i64 s.2.1, .int .i64 s.2.2.1, .int .i64 s.2.2.2.1, .int .i64 s.2.2.2.2.1, .int .i64 s.2.2.2.2.2.1, .int .u8 s.2.2.2.2.2.2.1, .string s.2.2.2.2.2.2.2.1] 30) fun s1 h_ =>
  (bif g.isNone then
    R 1 h_
  else
    Join [.one .bool] (fun _ (x8 : Bool) h_1 =>
      (bif x8 then
        Ld (.int .i64) h_1 s1 fun (x_Kind : Int) =>
        Ld (.int .i64) h_1 (s1.add 1) fun (x_Node : Int) =>
        Ld (.int .i64) h_1 (s1.add 2) fun (x_I : Int) =>
        Ld (.int .i64) h_1 (s1.add 3) fun (x_Draw : Int) =>
        Ld (.int .i64) h_1 (s1.add 4) fun (x_Keep : Int) =>
        Ld (.int .i64) h_1 (s1.add 5) fun (x_At : Int) =>
        Ld (.int .u8) h_1 (s1.add 6) fun (x_By : Int) =>
        Ld .str h_1 (s1.add 7) fun (x_Data : ByteArray) =>
        C_group_Group_node g (x_Kind, x_Node, x_I, x_Draw, x_Keep, x_At, x_By, x_Data, ()) h_1 fun (r : Int) h_2 =>
        R r h_2
      else
        Ld (.int .i64) h_1 s1 fun (Kind : Int) =>
        (bif decide (Kind ≥ 2) then
          Ld (.int .i64) h_1 s1 fun (Kind1 : Int) =>
          (bif decide (Kind1 ≤ 8) then
            Ld (.int .i64) h_1 s1 fun (x_Kind1 : Int) =>
            Ld (.int .i64) h_1 (s1.add 1) fun (x_Node1 : Int) =>
            Ld (.int .i64) h_1 (s1.add 2) fun (x_I1 : Int) =>
            Ld (.int .i64) h_1 (s1.add 3) fun (x_Draw1 : Int) =>
            Ld (.int .i64) h_1 (s1.add 4) fun (x_Keep1 : Int) =>
            Ld (.int .i64) h_1 (s1.add 5) fun (x_At1 : Int) =>
            Ld (.int .u8) h_1 (s1.add 6) fun (x_By1 : Int) =>
            Ld .str h_1 (s1.add 7) fun (x_Data1 : ByteArray) =>
            C_group_Group_message g (x_Kind1, x_Node1, x_I1, x_Draw1, x_Keep1, x_At1, x_By1, x_Data1, ()) h_1 fun (r1 : Int) h_3 =>
            R r1 h_3
          else
            R 1 h_1
          )
        else
          R 1 h_1
        )
      )
      ) fun J =>
    Ld (.int .i64) h_ s1 fun (Kind2 : Int) =>
    (bif Kind2 == 1 then
      J true h_
    else
      Ld (.int .i64) h_ s1 fun (Kind3 : Int) =>
      (bif decide (Kind3 ≥ 5) then
        Ld (.int .i64) h_ s1 fun (Kind4 : Int) =>
        J (decide (Kind4 ≤ 7)) h_
      else
        J false h_
      )
    )
  )
theorem E_group_Group_Do (g : Option Addr) (s : KL [.int .i64, .int .i64, .int .i64, .int .i64, .int .i64, .int .i64, .int .u8, .str]) (h : Heap) (R : Int → Heap → Prop) :
    VF Tryz.prog [(102, [(8, .one .bool)])] Tryz.f11 [.pointer g, .agg ⟨KL.vals [.int .i64, .int .i64, .int .i64, .int .i64, .int .i64, .int .i64, .int .u8, .str] s⟩] h [.one (.int .i64)] R = S_group_Group_Do g s h R := by kernel_rfl
theorem A_group_Group_Do {g : Option Addr} {s : KL [.int .i64, .int .i64, .int .i64, .int .i64, .int .i64, .int .i64, .int .u8, .str]} {h : Heap} {R : Int → Heap → Prop} (hs : S_group_Group_Do g s h R) : C_group_Group_Do g s h R :=
  use_ Tryz.func11 (by kernel_rfl) (E_group_Group_Do g s h R) hs

/-- (*group.Group).Node -/
def S_group_Group_Node (g : Option Addr) (i : Int) (h : Heap) (R : Option Addr → Heap → Prop) : Prop :=
  C_group_Group_is g i h fun (r : Bool) h_ =>
  (bif !r then
    R none h_
  else
    Nn g fun p =>
    Ld .sl h_ p fun (l : Sl) =>
    Ix l i 2 fun e =>
    Ld .ptr h_ (e.add 1) fun (node : Option Addr) =>
    R node h_
  )
theorem E_group_Group_Node (g : Option Addr) (i : Int) (h : Heap) (R : Option Addr → Heap → Prop) :
    VF Tryz.prog [] Tryz.f12 [.pointer g, .int .i64 i] h [.one .ptr] R = S_group_Group_Node g i h R := by kernel_rfl
theorem A_group_Group_Node {g : Option Addr} {i : Int} {h : Heap} {R : Option Addr → Heap → Prop} (hs : S_group_Group_Node g i h R) : C_group_Group_Node g i h R :=
  use_ Tryz.func12 (by kernel_rfl) (E_group_Group_Node g i h R) hs

/-- (*group.Group).Disk -/
def S_group_Group_Disk (g : Option Addr) (i : Int) (h : Heap) (R : Option Addr → Heap → Prop) : Prop :=
  C_group_Group_is g i h fun (r : Bool) h_ =>
  (bif !r then
    R none h_
  else
    Nn g fun p =>
    Ld .sl h_ p fun (l : Sl) =>
    Ix l i 2 fun e =>
    Ld .ptr h_ e fun (disk : Option Addr) =>
    R disk h_
  )
theorem E_group_Group_Disk (g : Option Addr) (i : Int) (h : Heap) (R : Option Addr → Heap → Prop) :
    VF Tryz.prog [] Tryz.f16 [.pointer g, .int .i64 i] h [.one .ptr] R = S_group_Group_Disk g i h R := by kernel_rfl
theorem A_group_Group_Disk {g : Option Addr} {i : Int} {h : Heap} {R : Option Addr → Heap → Prop} (hs : S_group_Group_Disk g i h R) : C_group_Group_Disk g i h R :=
  use_ Tryz.func16 (by kernel_rfl) (E_group_Group_Disk g i h R) hs

/-- (*group.Group).Run -/
def S_group_Group_Run (g : Option Addr) (l : Sl) (h : Heap) (R : Heap → Prop) : Prop :=
  Loop [.one (.int .i64)] (fun _ (x8 : Int) h_ go =>
    (bif decide (x8 < (l.n : Int)) then
      Ix l x8 8 fun e =>
      Ld (.int .i64) h_ e fun (x_Kind : Int) =>
      Ld (.int .i64) h_ (e.add 1) fun (x_Node : Int) =>
      Ld (.int .i64) h_ (e.add 2) fun (x_I : Int) =>
      Ld (.int .i64) h_ (e.add 3) fun (x_Draw : Int) =>
      Ld (.int .i64) h_ (e.add 4) fun (x_Keep : Int) =>
      Ld (.int .i64) h_ (e.add 5) fun (x_At : Int) =>
      Ld (.int .u8) h_ (e.add 6) fun (x_By : Int) =>
      Ld .str h_ (e.add 7) fun (x_Data : ByteArray) =>
      Alloc h_ (.cells #[.int .i64 0, .int .i64 0, .int .i64 0, .int .i64 0, .int .i64 0, .int .i64 0, .int .u8 0, .string (⟨#[]⟩ : ByteArray)] 30) fun s h_1 =>
      St h_1 s (.int .i64 x_Kind) fun h_2 =>
      St h_2 (s.add 1) (.int .i64 x_Node) fun h_3 =>
      St h_3 (s.add 2) (.int .i64 x_I) fun h_4 =>
      St h_4 (s.add 3) (.int .i64 x_Draw) fun h_5 =>
      St h_5 (s.add 4) (.int .i64 x_Keep) fun h_6 =>
      St h_6 (s.add 5) (.int .i64 x_At) fun h_7 =>
      St h_7 (s.add 6) (.int .u8 x_By) fun h_8 =>
      St h_8 (s.add 7) (.string x_Data) fun h_9 =>
      Ld (.int .i64) h_9 s fun (x_Kind1 : Int) =>
      Ld (.int .i64) h_9 (s.add 1) fun (x_Node1 : Int) =>
      Ld (.int .i64) h_9 (s.add 2) fun (x_I1 : Int) =>
      Ld (.int .i64) h_9 (s.add 3) fun (x_Draw1 : Int) =>
      Ld (.int .i64) h_9 (s.add 4) fun (x_Keep1 : Int) =>
      Ld (.int .i64) h_9 (s.add 5) fun (x_At1 : Int) =>
      Ld (.int .u8) h_9 (s.add 6) fun (x_By1 : Int) =>
      Ld .str h_9 (s.add 7) fun (x_Data1 : ByteArray) =>
      C_group_Group_Do g (x_Kind1, x_Node1, x_I1, x_Draw1, x_Keep1, x_At1, x_By1, x_Data1, ()) h_9 fun (r : Int) h_10 =>
      go (IntKind.i64.wrap (x8 + 1)) h_10
    else
      R h_
    )
    ) (0, ()) h
theorem E_group_Group_Run (g : Option Addr) (l : Sl) (h : Heap) (R : Heap → Prop) :
    VF Tryz.prog [(6, [(8, .one (.int .i64))])] Tryz.f22 [.pointer g, .slice l.a l.n l.c] h [] R = S_group_Group_Run g l h R := by kernel_rfl
theorem A_group_Group_Run {g : Option Addr} {l : Sl} {h : Heap} {R : Heap → Prop} (hs : S_group_Group_Run g l h R) : C_group_Group_Run g l h R :=
  use_ Tryz.func22 (by kernel_rfl) (E_group_Group_Run g l h R) hs

/-- (*group.Group).Settle -/
def S_group_Group_Settle (g : Option Addr) (most : Int) (h : Heap) (R : Int → Heap → Prop) : Prop :=
  Loop [.one (.int .i64)] (fun _ (n : Int) h_ go =>
    (bif !g.isNone then
      (bif decide (n < most) then
        Nn g fun p =>
        Ld .ptr h_ (p.add 1) fun (net : Option Addr) =>
        C_net_Net_api_Message_Len net h_ fun (r : Int) h_1 =>
        (bif decide (r > 0) then
          C_group_Group_Do g (2, 0, 0, 0, 0, 0, 0, (⟨#[]⟩ : ByteArray), ()) h_1 fun (r1 : Int) h_2 =>
          Let (IntKind.i64.wrap (n + 1) : Int) fun n1 =>
          go n1 h_2
        else
          R n h_1
        )
      else
        R n h_
      )
    else
      R n h_
    )
    ) (0, ()) h
theorem E_group_Group_Settle (g : Option Addr) (most : Int) (h : Heap) (R : Int → Heap → Prop) :
    VF Tryz.prog [(28, [(5, .one (.int .i64))])] Tryz.f23 [.pointer g, .int .i64 most] h [.one (.int .i64)] R = S_group_Group_Settle g most h R := by kernel_rfl
theorem A_group_Group_Settle {g : Option Addr} {most : Int} {h : Heap} {R : Int → Heap → Prop} (hs : S_group_Group_Settle g most h R) : C_group_Group_Settle g most h R :=
  use_ Tryz.func23 (by kernel_rfl) (E_group_Group_Settle g most h R) hs

/-- (*group.Group).Leader -/
def S_group_Group_Leader (g : Option Addr) (h : Heap) (R : Int → Bool → Heap → Prop) : Prop :=
  Let (-1 : Int) fun best =>
  C_group_Group_Len g h fun (r : Int) h_ =>
  Loop [.one (.int .i64), .one (.int .i64)] (fun _ (best1 : Int) (x9 : Int) h_1 go =>
    (bif decide (x9 < r) then
      C_group_Group_Node g x9 h_1 fun (r1 : Option Addr) h_2 =>
      C_raft_Node_Role r1 h_2 fun (r2 : Int) h_3 =>
      (bif r2 == 3 then
        (bif decide (best1 < 0) then
          go x9 (IntKind.i64.wrap (x9 + 1)) h_3
        else
          C_raft_Node_Term r1 h_3 fun (r3 : Int) h_4 =>
          C_group_Group_Node g best1 h_4 fun (r4 : Option Addr) h_5 =>
          C_raft_Node_Term r4 h_5 fun (r5 : Int) h_6 =>
          (bif decide (r3 > r5) then
            go x9 (IntKind.i64.wrap (x9 + 1)) h_6
          else
            go best1 (IntKind.i64.wrap (x9 + 1)) h_6
          )
        )
      else
        go best1 (IntKind.i64.wrap (x9 + 1)) h_3
      )
    else
      (bif decide (best1 < 0) then
        R 0 false h_1
      else
        R best1 true h_1
      )
    )
    ) (best, 0, ()) h_
theorem E_group_Group_Leader (g : Option Addr) (h : Heap) (R : Int → Bool → Heap → Prop) :
    VF Tryz.prog [(58, [(4, .one (.int .i64)), (9, .one (.int .i64))])] Tryz.f24 [.pointer g] h [.one (.int .i64), .one .bool] R = S_group_Group_Leader g h R := by kernel_rfl
theorem A_group_Group_Leader {g : Option Addr} {h : Heap} {R : Int → Bool → Heap → Prop} (hs : S_group_Group_Leader g h R) : C_group_Group_Leader g h R :=
  use_ Tryz.func24 (by kernel_rfl) (E_group_Group_Leader g h R) hs

/-- (*group.Group).Flight -/
def S_group_Group_Flight (g : Option Addr) (h : Heap) (R : Sl → Heap → Prop) : Prop :=
  (bif g.isNone then
    R ⟨none, 0, 0⟩ h
  else
    Nn g fun p =>
    Ld .ptr h (p.add 1) fun (net : Option Addr) =>
    C_net_Net_api_Message_All net h fun (r : Sl) h_ =>
    R r h_
  )
theorem E_group_Group_Flight (g : Option Addr) (h : Heap) (R : Sl → Heap → Prop) :
    VF Tryz.prog [] Tryz.f27 [.pointer g] h [.one .sl] R = S_group_Group_Flight g h R := by kernel_rfl
theorem A_group_Group_Flight {g : Option Addr} {h : Heap} {R : Sl → Heap → Prop} (hs : S_group_Group_Flight g h R) : C_group_Group_Flight g h R :=
  use_ Tryz.func27 (by kernel_rfl) (E_group_Group_Flight g h R) hs

/-- (*group.Group).Len -/
def S_group_Group_Len (g : Option Addr) (h : Heap) (R : Int → Heap → Prop) : Prop :=
  (bif g.isNone then
    R 0 h
  else
    Nn g fun p =>
    Ld .sl h p fun (l : Sl) =>
    R (l.n : Int) h
  )
theorem E_group_Group_Len (g : Option Addr) (h : Heap) (R : Int → Heap → Prop) :
    VF Tryz.prog [] Tryz.f28 [.pointer g] h [.one (.int .i64)] R = S_group_Group_Len g h R := by kernel_rfl
theorem A_group_Group_Len {g : Option Addr} {h : Heap} {R : Int → Heap → Prop} (hs : S_group_Group_Len g h R) : C_group_Group_Len g h R :=
  use_ Tryz.func28 (by kernel_rfl) (E_group_Group_Len g h R) hs

/-- net.New[api.Message] -/
def S_net_New_api_Message  (h : Heap) (R : Option Addr → Heap → Prop) : Prop :=
  Alloc h (.cells #[.slice none 0 0] 86) fun p h_ =>
  R (some p) h_
theorem E_net_New_api_Message  (h : Heap) (R : Option Addr → Heap → Prop) :
    VF Tryz.prog [] Tryz.f29 [] h [.one .ptr] R = S_net_New_api_Message  h R := by kernel_rfl
theorem A_net_New_api_Message  {h : Heap} {R : Option Addr → Heap → Prop} (hs : S_net_New_api_Message  h R) : C_net_New_api_Message  h R :=
  use_ Tryz.func29 (by kernel_rfl) (E_net_New_api_Message  h R) hs

/-- (*group.Group).node -/
def S_group_Group_node (g : Option Addr) (s : KL [.int .i64, .int .i64, .int .i64, .int .i64, .int .i64, .int .i64, .int .u8, .str]) (h : Heap) (R : Int → Heap → Prop) : Prop :=
  Alloc h (.cells #[.int .i64 s.1, .int .i64 s.2.1, .int .i64 s.2.2.1, .int .i64 s.2.2.2.1, .int .i64 s.2.2.2.2.1, .int .i64 s.2.2.2.2.2.1, .int .u8 s.2.2.2.2.2.2.1, .string s.2.2.2.2.2.2.2.1] 30) fun s1 h_ =>
  Ld (.int .i64) h_ (s1.add 1) fun (Node : Int) =>
  C_group_Group_Node g Node h_ fun (r : Option Addr) h_1 =>
  Let (!r.isNone : Bool) fun up =>
  Join [] (fun _ h_2 =>
    Ld (.int .i64) h_2 (s1.add 1) fun (Node1 : Int) =>
    Ld (.int .i64) h_2 s1 fun (x_Kind : Int) =>
    Ld (.int .i64) h_2 (s1.add 1) fun (x_Node : Int) =>
    Ld (.int .i64) h_2 (s1.add 2) fun (x_I : Int) =>
    Ld (.int .i64) h_2 (s1.add 3) fun (x_Draw : Int) =>
    Ld (.int .i64) h_2 (s1.add 4) fun (x_Keep : Int) =>
    Ld (.int .i64) h_2 (s1.add 5) fun (x_At : Int) =>
    Ld (.int .u8) h_2 (s1.add 6) fun (x_By : Int) =>
    Ld .str h_2 (s1.add 7) fun (x_Data : ByteArray) =>
    C_group_Group_fall g Node1 (x_Kind, x_Node, x_I, x_Draw, x_Keep, x_At, x_By, x_Data, ()) h_2 fun h_3 =>
    R 0 h_3
    ) fun J =>
  Ld (.int .i64) h_1 (s1.add 1) fun (Node2 : Int) =>
  C_group_Group_is g Node2 h_1 fun (r1 : Bool) h_4 =>
  (bif !r1 then
    R 6 h_4
  else
    Join [.one .bool] (fun _ (x17 : Bool) h_5 =>
      (bif x17 then
        R 8 h_5
      else
        Ld (.int .i64) h_5 s1 fun (Kind : Int) =>
        (bif Kind == 7 then
          Ld (.int .i64) h_5 (s1.add 1) fun (Node3 : Int) =>
          C_group_Group_restart g Node3 h_5 fun (r2 : Int) h_6 =>
          R r2 h_6
        else
          (bif !up then
            R 12 h_5
          else
            Ld (.int .i64) h_5 s1 fun (Kind1 : Int) =>
            (bif Kind1 == 1 then
              Ld (.int .i64) h_5 (s1.add 1) fun (Node4 : Int) =>
              C_group_Group_comes g Node4 (.func (.func 46) #[] #[.pointer (some s1)]) h_5 fun (r3 : Int) h_7 =>
              R r3 h_7
            else
              Ld (.int .i64) h_5 s1 fun (Kind2 : Int) =>
              (bif Kind2 == 5 then
                Ld (.int .i64) h_5 (s1.add 1) fun (Node5 : Int) =>
                C_group_Group_comes g Node5 (.func (.func 48) #[] #[.pointer (some s1)]) h_5 fun (r4 : Int) h_8 =>
                R r4 h_8
              else
                J  h_5
              )
            )
          )
        )
      )
      ) fun J1 =>
    Ld (.int .i64) h_4 s1 fun (Kind3 : Int) =>
    (bif Kind3 == 7 then
      J1 up h_4
    else
      J1 false h_4
    )
  )
theorem E_group_Group_node (g : Option Addr) (s : KL [.int .i64, .int .i64, .int .i64, .int .i64, .int .i64, .int .i64, .int .u8, .str]) (h : Heap) (R : Int → Heap → Prop) :
    VF Tryz.prog [(14, []), (230, [(17, .one .bool)])] Tryz.f32 [.pointer g, .agg ⟨KL.vals [.int .i64, .int .i64, .int .i64, .int .i64, .int .i64, .int .i64, .int .u8, .str] s⟩] h [.one (.int .i64)] R = S_group_Group_node g s h R := by kernel_rfl
theorem A_group_Group_node {g : Option Addr} {s : KL [.int .i64, .int .i64, .int .i64, .int .i64, .int .i64, .int .i64, .int .u8, .str]} {h : Heap} {R : Int → Heap → Prop} (hs : S_group_Group_node g s h R) : C_group_Group_node g s h R :=
  use_ Tryz.func32 (by kernel_rfl) (E_group_Group_node g s h R) hs

/-- (*group.Group).message -/
def S_group_Group_message (g : Option Addr) (s : KL [.int .i64, .int .i64, .int .i64, .int .i64, .int .i64, .int .i64, .int .u8, .str]) (h : Heap) (R : Int → Heap → Prop) : Prop :=
  Alloc h (.cells #[.int .i64 s.1, .int .i64 s.2.1, .int .i64 s.2.2.1, .int .i64 s.2.2.2.1, .int .i64 s.2.2.2.2.1, .int .i64 s.2.2.2.2.2.1, .int .u8 s.2.2.2.2.2.2.1, .string s.2.2.2.2.2.2.2.1] 30) fun s1 h_ =>
  Ld (.int .i64) h_ s1 fun (Kind : Int) =>
  (bif Kind == 4 then
    Nn g fun p =>
    Ld .ptr h_ (p.add 1) fun (net : Option Addr) =>
    Ld (.int .i64) h_ (s1.add 2) fun (I : Int) =>
    C_net_Net_api_Message_Double net I h_ fun (r : Int) h_1 =>
    R r h_1
  else
    Ld (.int .i64) h_ s1 fun (Kind1 : Int) =>
    (bif Kind1 == 3 then
      Join [.one (.int .i64)] (fun _ (e : Int) h_2 =>
        R e h_2
        ) fun J =>
      Nn g fun p1 =>
      Ld .ptr h_ (p1.add 1) fun (net1 : Option Addr) =>
      Ld (.int .i64) h_ (s1.add 2) fun (I1 : Int) =>
      (
        C_net_Net_api_Message_Take net1 I1 h_ fun (r1 : KL [.int .i64, .int .i64, .int .i64, .int .i64, .int .i64, .int .i64, .int .i64, .bool, .sl]) (r2 : Int) h_3 =>
        Alloc h_3 (.cells #[.int .i64 0, .int .i64 0, .int .i64 0, .int .i64 0, .int .i64 0, .int .i64 0, .int .i64 0, .bool false, .slice none 0 0] 59) fun p2 h_4 =>
        (Ld .ptr h_4 (p1.add 1) fun (net2 : Option Addr) => (.pointer net2 : Value) = .pointer net1) ∧
        (Ld (.int .i64) h_4 (s1.add 2) fun (I2 : Int) => (.int .i64 I2 : Value) = .int .i64 I1) ∧
        St h_4 p2 (.int .i64 r1.1) fun h_5 =>
        St h_5 (p2.add 1) (.int .i64 r1.2.1) fun h_6 =>
        St h_6 (p2.add 2) (.int .i64 r1.2.2.1) fun h_7 =>
        St h_7 (p2.add 3) (.int .i64 r1.2.2.2.1) fun h_8 =>
        St h_8 (p2.add 4) (.int .i64 r1.2.2.2.2.1) fun h_9 =>
        St h_9 (p2.add 5) (.int .i64 r1.2.2.2.2.2.1) fun h_10 =>
        St h_10 (p2.add 6) (.int .i64 r1.2.2.2.2.2.2.1) fun h_11 =>
        St h_11 (p2.add 7) (.bool r1.2.2.2.2.2.2.2.1) fun h_12 =>
        St h_12 (p2.add 8) (.slice r1.2.2.2.2.2.2.2.2.1.a r1.2.2.2.2.2.2.2.2.1.n r1.2.2.2.2.2.2.2.2.1.c) fun h_13 =>
        J r2 h_13
      ) ∧
      (
        Alloc h_ (.cells #[.int .i64 0, .int .i64 0, .int .i64 0, .int .i64 0, .int .i64 0, .int .i64 0, .int .i64 0, .bool false, .slice none 0 0] 59) fun p3 h_14 =>
        (Ld .ptr h_14 (p1.add 1) fun (net3 : Option Addr) => (.pointer net3 : Value) = .pointer net1) ∧
        (Ld (.int .i64) h_14 (s1.add 2) fun (I3 : Int) => (.int .i64 I3 : Value) = .int .i64 I1) ∧
        C_net_Net_api_Message_Take net1 I1 h_14 fun (r3 : KL [.int .i64, .int .i64, .int .i64, .int .i64, .int .i64, .int .i64, .int .i64, .bool, .sl]) (r4 : Int) h_15 =>
        St h_15 p3 (.int .i64 r3.1) fun h_16 =>
        St h_16 (p3.add 1) (.int .i64 r3.2.1) fun h_17 =>
        St h_17 (p3.add 2) (.int .i64 r3.2.2.1) fun h_18 =>
        St h_18 (p3.add 3) (.int .i64 r3.2.2.2.1) fun h_19 =>
        St h_19 (p3.add 4) (.int .i64 r3.2.2.2.2.1) fun h_20 =>
        St h_20 (p3.add 5) (.int .i64 r3.2.2.2.2.2.1) fun h_21 =>
        St h_21 (p3.add 6) (.int .i64 r3.2.2.2.2.2.2.1) fun h_22 =>
        St h_22 (p3.add 7) (.bool r3.2.2.2.2.2.2.2.1) fun h_23 =>
        St h_23 (p3.add 8) (.slice r3.2.2.2.2.2.2.2.2.1.a r3.2.2.2.2.2.2.2.2.1.n r3.2.2.2.2.2.2.2.2.1.c) fun h_24 =>
        J r4 h_24
      )
    else
      Ld (.int .i64) h_ (s1.add 2) fun (I4 : Int) =>
      C_group_Group_deliver g I4 h_ fun (r5 : KL [.int .i64, .int .i64, .int .i64, .int .i64, .int .i64, .int .i64, .int .i64, .bool, .sl]) (r6 : Int) h_25 =>
      Alloc h_25 (.cells #[.int .i64 0, .int .i64 0, .int .i64 0, .int .i64 0, .int .i64 0, .int .i64 0, .int .i64 0, .bool false, .slice none 0 0] 59) fun m h_26 =>
      St h_26 m (.int .i64 r5.1) fun h_27 =>
      St h_27 (m.add 1) (.int .i64 r5.2.1) fun h_28 =>
      St h_28 (m.add 2) (.int .i64 r5.2.2.1) fun h_29 =>
      St h_29 (m.add 3) (.int .i64 r5.2.2.2.1) fun h_30 =>
      St h_30 (m.add 4) (.int .i64 r5.2.2.2.2.1) fun h_31 =>
      St h_31 (m.add 5) (.int .i64 r5.2.2.2.2.2.1) fun h_32 =>
      St h_32 (m.add 6) (.int .i64 r5.2.2.2.2.2.2.1) fun h_33 =>
      St h_33 (m.add 7) (.bool r5.2.2.2.2.2.2.2.1) fun h_34 =>
      St h_34 (m.add 8) (.slice r5.2.2.2.2.2.2.2.2.1.a r5.2.2.2.2.2.2.2.2.1.n r5.2.2.2.2.2.2.2.2.1.c) fun h_35 =>
      (bif r6 != 0 then
        R r6 h_35
      else
        Ld (.int .i64) h_35 s1 fun (Kind2 : Int) =>
        (bif Kind2 == 2 then
          Ld (.int .i64) h_35 (m.add 2) fun (To : Int) =>
          C_group_Group_comes g To (.func (.func 54) #[] #[.pointer (some m)]) h_35 fun (r7 : Int) h_36 =>
          R r7 h_36
        else
          Nn g fun p4 =>
          Ld .sl h_35 p4 fun (l : Sl) =>
          Ld (.int .i64) h_35 (m.add 2) fun (To1 : Int) =>
          Ix l To1 2 fun e1 =>
          Ld .ptr h_35 (e1.add 1) fun (node : Option Addr) =>
          Ld (.int .i64) h_35 m fun (x_Kind : Int) =>
          Ld (.int .i64) h_35 (m.add 1) fun (x_From : Int) =>
          Ld (.int .i64) h_35 (m.add 2) fun (x_To : Int) =>
          Ld (.int .i64) h_35 (m.add 3) fun (x_Term : Int) =>
          Ld (.int .i64) h_35 (m.add 4) fun (x_Index : Int) =>
          Ld (.int .i64) h_35 (m.add 5) fun (x_LogTerm : Int) =>
          Ld (.int .i64) h_35 (m.add 6) fun (x_Commit : Int) =>
          Ld .bool h_35 (m.add 7) fun (x_Yes : Bool) =>
          Ld .sl h_35 (m.add 8) fun (x_Entries : Sl) =>
          C_raft_Node_Step node (x_Kind, x_From, x_To, x_Term, x_Index, x_LogTerm, x_Commit, x_Yes, x_Entries, ()) h_35 fun h_37 =>
          Ld (.int .i64) h_37 (m.add 2) fun (To2 : Int) =>
          C_group_Group_write g To2 h_37 fun (r8 : Int) h_38 =>
          Ld (.int .i64) h_38 (m.add 2) fun (To3 : Int) =>
          Ld (.int .i64) h_38 s1 fun (x_Kind1 : Int) =>
          Ld (.int .i64) h_38 (s1.add 1) fun (x_Node : Int) =>
          Ld (.int .i64) h_38 (s1.add 2) fun (x_I : Int) =>
          Ld (.int .i64) h_38 (s1.add 3) fun (x_Draw : Int) =>
          Ld (.int .i64) h_38 (s1.add 4) fun (x_Keep : Int) =>
          Ld (.int .i64) h_38 (s1.add 5) fun (x_At : Int) =>
          Ld (.int .u8) h_38 (s1.add 6) fun (x_By : Int) =>
          Ld .str h_38 (s1.add 7) fun (x_Data : ByteArray) =>
          C_group_Group_fall g To3 (x_Kind1, x_Node, x_I, x_Draw, x_Keep, x_At, x_By, x_Data, ()) h_38 fun h_39 =>
          R 0 h_39
        )
      )
    )
  )
theorem E_group_Group_message (g : Option Addr) (s : KL [.int .i64, .int .i64, .int .i64, .int .i64, .int .i64, .int .i64, .int .u8, .str]) (h : Heap) (R : Int → Heap → Prop) :
    VF Tryz.prog [(116, [(6, .one (.int .i64))])] Tryz.f33 [.pointer g, .agg ⟨KL.vals [.int .i64, .int .i64, .int .i64, .int .i64, .int .i64, .int .i64, .int .u8, .str] s⟩] h [.one (.int .i64)] R = S_group_Group_message g s h R := by kernel_rfl
theorem A_group_Group_message {g : Option Addr} {s : KL [.int .i64, .int .i64, .int .i64, .int .i64, .int .i64, .int .i64, .int .u8, .str]} {h : Heap} {R : Int → Heap → Prop} (hs : S_group_Group_message g s h R) : C_group_Group_message g s h R :=
  use_ Tryz.func33 (by kernel_rfl) (E_group_Group_message g s h R) hs

/-- (*group.Group).is -/
def S_group_Group_is (g : Option Addr) (i : Int) (h : Heap) (R : Bool → Heap → Prop) : Prop :=
  (bif decide (i ≥ 0) then
    C_group_Group_Len g h fun (r : Int) h_ =>
    R (decide (i < r)) h_
  else
    R false h
  )
theorem E_group_Group_is (g : Option Addr) (i : Int) (h : Heap) (R : Bool → Heap → Prop) :
    VF Tryz.prog [] Tryz.f34 [.pointer g, .int .i64 i] h [.one .bool] R = S_group_Group_is g i h R := by kernel_rfl
theorem A_group_Group_is {g : Option Addr} {i : Int} {h : Heap} {R : Bool → Heap → Prop} (hs : S_group_Group_is g i h R) : C_group_Group_is g i h R :=
  use_ Tryz.func34 (by kernel_rfl) (E_group_Group_is g i h R) hs

/-- (*net.Net[api.Message]).Len -/
def S_net_Net_api_Message_Len (n : Option Addr) (h : Heap) (R : Int → Heap → Prop) : Prop :=
  (bif n.isNone then
    R 0 h
  else
    Nn n fun p =>
    Ld .sl h p fun (l : Sl) =>
    R (l.n : Int) h
  )
theorem E_net_Net_api_Message_Len (n : Option Addr) (h : Heap) (R : Int → Heap → Prop) :
    VF Tryz.prog [] Tryz.f39 [.pointer n] h [.one (.int .i64)] R = S_net_Net_api_Message_Len n h R := by kernel_rfl
theorem A_net_Net_api_Message_Len {n : Option Addr} {h : Heap} {R : Int → Heap → Prop} (hs : S_net_Net_api_Message_Len n h R) : C_net_Net_api_Message_Len n h R :=
  use_ Tryz.func39 (by kernel_rfl) (E_net_Net_api_Message_Len n h R) hs

/-- (*net.Net[api.Message]).All -/
def S_net_Net_api_Message_All (n : Option Addr) (h : Heap) (R : Sl → Heap → Prop) : Prop :=
  (bif n.isNone then
    R ⟨none, 0, 0⟩ h
  else
    Nn n fun p =>
    Ld .sl h p fun (l : Sl) =>
    C_slices_Clone_api_Message_api_Message l h fun (r : Sl) h_ =>
    R r h_
  )
theorem E_net_Net_api_Message_All (n : Option Addr) (h : Heap) (R : Sl → Heap → Prop) :
    VF Tryz.prog [] Tryz.f41 [.pointer n] h [.one .sl] R = S_net_Net_api_Message_All n h R := by kernel_rfl
theorem A_net_Net_api_Message_All {n : Option Addr} {h : Heap} {R : Sl → Heap → Prop} (hs : S_net_Net_api_Message_All n h R) : C_net_Net_api_Message_All n h R :=
  use_ Tryz.func41 (by kernel_rfl) (E_net_Net_api_Message_All n h R) hs

/-- (*group.Group).restart -/
def S_group_Group_restart (g : Option Addr) (i : Int) (h : Heap) (R : Int → Heap → Prop) : Prop :=
  Nn g fun p =>
  Ld .sl h p fun (l : Sl) =>
  Ix l i 2 fun e =>
  Ld .ptr h e fun (disk : Option Addr) =>
  C_hard_Recover disk h fun (r : KL [.int .i64, .int .i64, .sl]) (r1 : Int) h_ =>
  Alloc h_ (.cells #[.int .i64 0, .int .i64 0, .slice none 0 0] 46) fun s h_1 =>
  St h_1 s (.int .i64 r.1) fun h_2 =>
  St h_2 (s.add 1) (.int .i64 r.2.1) fun h_3 =>
  St h_3 (s.add 2) (.slice r.2.2.1.a r.2.2.1.n r.2.2.1.c) fun h_4 =>
  (bif r1 != 0 then
    R r1 h_4
  else
    Nn g fun p1 =>
    Ld .sl h_4 p1 fun (l1 : Sl) =>
    Nn g fun p2 =>
    Ld .sl h_4 p2 fun (l2 : Sl) =>
    Ld (.int .i64) h_4 s fun (x_Term : Int) =>
    Ld (.int .i64) h_4 (s.add 1) fun (x_Vote : Int) =>
    Ld .sl h_4 (s.add 2) fun (x_Entries : Sl) =>
    C_raft_New i (l2.n : Int) 4 2 (x_Term, x_Vote, x_Entries, ()) h_4 fun (r2 : Option Addr) (r3 : Int) h_5 =>
    (Ld .sl h_5 p1 fun (l3 : Sl) => (.slice l3.a l3.n l3.c : Value) = .slice l1.a l1.n l1.c) ∧
    Ix l1 i 2 fun e1 =>
    St h_5 (e1.add 1) (.pointer r2) fun h_6 =>
    R r3 h_6
  )
theorem E_group_Group_restart (g : Option Addr) (i : Int) (h : Heap) (R : Int → Heap → Prop) :
    VF Tryz.prog [] Tryz.f44 [.pointer g, .int .i64 i] h [.one (.int .i64)] R = S_group_Group_restart g i h R := by kernel_rfl
theorem A_group_Group_restart {g : Option Addr} {i : Int} {h : Heap} {R : Int → Heap → Prop} (hs : S_group_Group_restart g i h R) : C_group_Group_restart g i h R :=
  use_ Tryz.func44 (by kernel_rfl) (E_group_Group_restart g i h R) hs

/-- (*group.Group).comes -/
def S_group_Group_comes_v0 (g : Option Addr) (i : Int) (cap : Option Addr) (h : Heap) (R : Int → Heap → Prop) : Prop :=
  Nn g fun p =>
  Ld .sl h p fun (l : Sl) =>
  Ix l i 2 fun e =>
  Ld .ptr h (e.add 1) fun (node : Option Addr) =>
  C_group_Group_node_1 node cap h fun (r : Int) h_ =>
  C_group_Group_write g i h_ fun (r1 : Int) h_1 =>
  (bif r1 != 0 then
    Nn g fun p1 =>
    Ld .sl h_1 p1 fun (l1 : Sl) =>
    Ix l1 i 2 fun e1 =>
    St h_1 (e1.add 1) (.pointer none) fun h_2 =>
    R r1 h_2
  else
    Nn g fun p2 =>
    Ld .sl h_1 p2 fun (l2 : Sl) =>
    Ix l2 i 2 fun e2 =>
    Ld .ptr h_1 e2 fun (disk : Option Addr) =>
    C_disk_Disk_Sync disk h_1 fun (r2 : Int) h_3 =>
    C_raft_Node_Out node h_3 fun (r3 : Sl) h_4 =>
    Loop [.one (.int .i64)] (fun _ (x48 : Int) h_5 go =>
      (bif decide (x48 < (r3.n : Int)) then
        Ix r3 x48 9 fun e3 =>
        Ld (.int .i64) h_5 e3 fun (x_Kind : Int) =>
        Ld (.int .i64) h_5 (e3.add 1) fun (x_From : Int) =>
        Ld (.int .i64) h_5 (e3.add 2) fun (x_To : Int) =>
        Ld (.int .i64) h_5 (e3.add 3) fun (x_Term : Int) =>
        Ld (.int .i64) h_5 (e3.add 4) fun (x_Index : Int) =>
        Ld (.int .i64) h_5 (e3.add 5) fun (x_LogTerm : Int) =>
        Ld (.int .i64) h_5 (e3.add 6) fun (x_Commit : Int) =>
        Ld .bool h_5 (e3.add 7) fun (x_Yes : Bool) =>
        Ld .sl h_5 (e3.add 8) fun (x_Entries : Sl) =>
        Alloc h_5 (.cells #[.int .i64 0, .int .i64 0, .int .i64 0, .int .i64 0, .int .i64 0, .int .i64 0, .int .i64 0, .bool false, .slice none 0 0] 59) fun m h_6 =>
        St h_6 m (.int .i64 x_Kind) fun h_7 =>
        St h_7 (m.add 1) (.int .i64 x_From) fun h_8 =>
        St h_8 (m.add 2) (.int .i64 x_To) fun h_9 =>
        St h_9 (m.add 3) (.int .i64 x_Term) fun h_10 =>
        St h_10 (m.add 4) (.int .i64 x_Index) fun h_11 =>
        St h_11 (m.add 5) (.int .i64 x_LogTerm) fun h_12 =>
        St h_12 (m.add 6) (.int .i64 x_Commit) fun h_13 =>
        St h_13 (m.add 7) (.bool x_Yes) fun h_14 =>
        St h_14 (m.add 8) (.slice x_Entries.a x_Entries.n x_Entries.c) fun h_15 =>
        Nn g fun p3 =>
        Ld .ptr h_15 (p3.add 1) fun (net : Option Addr) =>
        Ld (.int .i64) h_15 m fun (x_Kind1 : Int) =>
        Ld (.int .i64) h_15 (m.add 1) fun (x_From1 : Int) =>
        Ld (.int .i64) h_15 (m.add 2) fun (x_To1 : Int) =>
        Ld (.int .i64) h_15 (m.add 3) fun (x_Term1 : Int) =>
        Ld (.int .i64) h_15 (m.add 4) fun (x_Index1 : Int) =>
        Ld (.int .i64) h_15 (m.add 5) fun (x_LogTerm1 : Int) =>
        Ld (.int .i64) h_15 (m.add 6) fun (x_Commit1 : Int) =>
        Ld .bool h_15 (m.add 7) fun (x_Yes1 : Bool) =>
        Ld .sl h_15 (m.add 8) fun (x_Entries1 : Sl) =>
        C_net_Net_api_Message_Send net (x_Kind1, x_From1, x_To1, x_Term1, x_Index1, x_LogTerm1, x_Commit1, x_Yes1, x_Entries1, ()) h_15 fun (r4 : Int) h_16 =>
        go (IntKind.i64.wrap (x48 + 1)) h_16
      else
        R r h_5
      )
      ) (0, ()) h_4
  )
theorem E_group_Group_comes_v0 (g : Option Addr) (i : Int) (cap : Option Addr) (h : Heap) (R : Int → Heap → Prop) :
    VF Tryz.prog [(506, [(48, .one (.int .i64))])] Tryz.f45 [.pointer g, .int .i64 i, .func (.func 46) #[] #[.pointer cap]] h [.one (.int .i64)] R = S_group_Group_comes_v0 g i cap h R := by kernel_rfl
theorem A_group_Group_comes_v0 {g : Option Addr} {i : Int} {cap : Option Addr} {h : Heap} {R : Int → Heap → Prop} (hs : S_group_Group_comes_v0 g i cap h R) : C_group_Group_comes g i (.func (.func 46) #[] #[.pointer cap]) h R :=
  use_ Tryz.func45 (by kernel_rfl) (E_group_Group_comes_v0 g i cap h R) hs

/-- (*group.Group).comes -/
def S_group_Group_comes_v1 (g : Option Addr) (i : Int) (cap : Option Addr) (h : Heap) (R : Int → Heap → Prop) : Prop :=
  Nn g fun p =>
  Ld .sl h p fun (l : Sl) =>
  Ix l i 2 fun e =>
  Ld .ptr h (e.add 1) fun (node : Option Addr) =>
  C_group_Group_node_2 node cap h fun (r : Int) h_ =>
  C_group_Group_write g i h_ fun (r1 : Int) h_1 =>
  (bif r1 != 0 then
    Nn g fun p1 =>
    Ld .sl h_1 p1 fun (l1 : Sl) =>
    Ix l1 i 2 fun e1 =>
    St h_1 (e1.add 1) (.pointer none) fun h_2 =>
    R r1 h_2
  else
    Nn g fun p2 =>
    Ld .sl h_1 p2 fun (l2 : Sl) =>
    Ix l2 i 2 fun e2 =>
    Ld .ptr h_1 e2 fun (disk : Option Addr) =>
    C_disk_Disk_Sync disk h_1 fun (r2 : Int) h_3 =>
    C_raft_Node_Out node h_3 fun (r3 : Sl) h_4 =>
    Loop [.one (.int .i64)] (fun _ (x48 : Int) h_5 go =>
      (bif decide (x48 < (r3.n : Int)) then
        Ix r3 x48 9 fun e3 =>
        Ld (.int .i64) h_5 e3 fun (x_Kind : Int) =>
        Ld (.int .i64) h_5 (e3.add 1) fun (x_From : Int) =>
        Ld (.int .i64) h_5 (e3.add 2) fun (x_To : Int) =>
        Ld (.int .i64) h_5 (e3.add 3) fun (x_Term : Int) =>
        Ld (.int .i64) h_5 (e3.add 4) fun (x_Index : Int) =>
        Ld (.int .i64) h_5 (e3.add 5) fun (x_LogTerm : Int) =>
        Ld (.int .i64) h_5 (e3.add 6) fun (x_Commit : Int) =>
        Ld .bool h_5 (e3.add 7) fun (x_Yes : Bool) =>
        Ld .sl h_5 (e3.add 8) fun (x_Entries : Sl) =>
        Alloc h_5 (.cells #[.int .i64 0, .int .i64 0, .int .i64 0, .int .i64 0, .int .i64 0, .int .i64 0, .int .i64 0, .bool false, .slice none 0 0] 59) fun m h_6 =>
        St h_6 m (.int .i64 x_Kind) fun h_7 =>
        St h_7 (m.add 1) (.int .i64 x_From) fun h_8 =>
        St h_8 (m.add 2) (.int .i64 x_To) fun h_9 =>
        St h_9 (m.add 3) (.int .i64 x_Term) fun h_10 =>
        St h_10 (m.add 4) (.int .i64 x_Index) fun h_11 =>
        St h_11 (m.add 5) (.int .i64 x_LogTerm) fun h_12 =>
        St h_12 (m.add 6) (.int .i64 x_Commit) fun h_13 =>
        St h_13 (m.add 7) (.bool x_Yes) fun h_14 =>
        St h_14 (m.add 8) (.slice x_Entries.a x_Entries.n x_Entries.c) fun h_15 =>
        Nn g fun p3 =>
        Ld .ptr h_15 (p3.add 1) fun (net : Option Addr) =>
        Ld (.int .i64) h_15 m fun (x_Kind1 : Int) =>
        Ld (.int .i64) h_15 (m.add 1) fun (x_From1 : Int) =>
        Ld (.int .i64) h_15 (m.add 2) fun (x_To1 : Int) =>
        Ld (.int .i64) h_15 (m.add 3) fun (x_Term1 : Int) =>
        Ld (.int .i64) h_15 (m.add 4) fun (x_Index1 : Int) =>
        Ld (.int .i64) h_15 (m.add 5) fun (x_LogTerm1 : Int) =>
        Ld (.int .i64) h_15 (m.add 6) fun (x_Commit1 : Int) =>
        Ld .bool h_15 (m.add 7) fun (x_Yes1 : Bool) =>
        Ld .sl h_15 (m.add 8) fun (x_Entries1 : Sl) =>
        C_net_Net_api_Message_Send net (x_Kind1, x_From1, x_To1, x_Term1, x_Index1, x_LogTerm1, x_Commit1, x_Yes1, x_Entries1, ()) h_15 fun (r4 : Int) h_16 =>
        go (IntKind.i64.wrap (x48 + 1)) h_16
      else
        R r h_5
      )
      ) (0, ()) h_4
  )
theorem E_group_Group_comes_v1 (g : Option Addr) (i : Int) (cap : Option Addr) (h : Heap) (R : Int → Heap → Prop) :
    VF Tryz.prog [(506, [(48, .one (.int .i64))])] Tryz.f45 [.pointer g, .int .i64 i, .func (.func 48) #[] #[.pointer cap]] h [.one (.int .i64)] R = S_group_Group_comes_v1 g i cap h R := by kernel_rfl
theorem A_group_Group_comes_v1 {g : Option Addr} {i : Int} {cap : Option Addr} {h : Heap} {R : Int → Heap → Prop} (hs : S_group_Group_comes_v1 g i cap h R) : C_group_Group_comes g i (.func (.func 48) #[] #[.pointer cap]) h R :=
  use_ Tryz.func45 (by kernel_rfl) (E_group_Group_comes_v1 g i cap h R) hs

/-- (*group.Group).comes -/
def S_group_Group_comes_v2 (g : Option Addr) (i : Int) (cap : Option Addr) (h : Heap) (R : Int → Heap → Prop) : Prop :=
  Nn g fun p =>
  Ld .sl h p fun (l : Sl) =>
  Ix l i 2 fun e =>
  Ld .ptr h (e.add 1) fun (node : Option Addr) =>
  C_group_Group_message_1 node cap h fun (r : Int) h_ =>
  C_group_Group_write g i h_ fun (r1 : Int) h_1 =>
  (bif r1 != 0 then
    Nn g fun p1 =>
    Ld .sl h_1 p1 fun (l1 : Sl) =>
    Ix l1 i 2 fun e1 =>
    St h_1 (e1.add 1) (.pointer none) fun h_2 =>
    R r1 h_2
  else
    Nn g fun p2 =>
    Ld .sl h_1 p2 fun (l2 : Sl) =>
    Ix l2 i 2 fun e2 =>
    Ld .ptr h_1 e2 fun (disk : Option Addr) =>
    C_disk_Disk_Sync disk h_1 fun (r2 : Int) h_3 =>
    C_raft_Node_Out node h_3 fun (r3 : Sl) h_4 =>
    Loop [.one (.int .i64)] (fun _ (x48 : Int) h_5 go =>
      (bif decide (x48 < (r3.n : Int)) then
        Ix r3 x48 9 fun e3 =>
        Ld (.int .i64) h_5 e3 fun (x_Kind : Int) =>
        Ld (.int .i64) h_5 (e3.add 1) fun (x_From : Int) =>
        Ld (.int .i64) h_5 (e3.add 2) fun (x_To : Int) =>
        Ld (.int .i64) h_5 (e3.add 3) fun (x_Term : Int) =>
        Ld (.int .i64) h_5 (e3.add 4) fun (x_Index : Int) =>
        Ld (.int .i64) h_5 (e3.add 5) fun (x_LogTerm : Int) =>
        Ld (.int .i64) h_5 (e3.add 6) fun (x_Commit : Int) =>
        Ld .bool h_5 (e3.add 7) fun (x_Yes : Bool) =>
        Ld .sl h_5 (e3.add 8) fun (x_Entries : Sl) =>
        Alloc h_5 (.cells #[.int .i64 0, .int .i64 0, .int .i64 0, .int .i64 0, .int .i64 0, .int .i64 0, .int .i64 0, .bool false, .slice none 0 0] 59) fun m h_6 =>
        St h_6 m (.int .i64 x_Kind) fun h_7 =>
        St h_7 (m.add 1) (.int .i64 x_From) fun h_8 =>
        St h_8 (m.add 2) (.int .i64 x_To) fun h_9 =>
        St h_9 (m.add 3) (.int .i64 x_Term) fun h_10 =>
        St h_10 (m.add 4) (.int .i64 x_Index) fun h_11 =>
        St h_11 (m.add 5) (.int .i64 x_LogTerm) fun h_12 =>
        St h_12 (m.add 6) (.int .i64 x_Commit) fun h_13 =>
        St h_13 (m.add 7) (.bool x_Yes) fun h_14 =>
        St h_14 (m.add 8) (.slice x_Entries.a x_Entries.n x_Entries.c) fun h_15 =>
        Nn g fun p3 =>
        Ld .ptr h_15 (p3.add 1) fun (net : Option Addr) =>
        Ld (.int .i64) h_15 m fun (x_Kind1 : Int) =>
        Ld (.int .i64) h_15 (m.add 1) fun (x_From1 : Int) =>
        Ld (.int .i64) h_15 (m.add 2) fun (x_To1 : Int) =>
        Ld (.int .i64) h_15 (m.add 3) fun (x_Term1 : Int) =>
        Ld (.int .i64) h_15 (m.add 4) fun (x_Index1 : Int) =>
        Ld (.int .i64) h_15 (m.add 5) fun (x_LogTerm1 : Int) =>
        Ld (.int .i64) h_15 (m.add 6) fun (x_Commit1 : Int) =>
        Ld .bool h_15 (m.add 7) fun (x_Yes1 : Bool) =>
        Ld .sl h_15 (m.add 8) fun (x_Entries1 : Sl) =>
        C_net_Net_api_Message_Send net (x_Kind1, x_From1, x_To1, x_Term1, x_Index1, x_LogTerm1, x_Commit1, x_Yes1, x_Entries1, ()) h_15 fun (r4 : Int) h_16 =>
        go (IntKind.i64.wrap (x48 + 1)) h_16
      else
        R r h_5
      )
      ) (0, ()) h_4
  )
theorem E_group_Group_comes_v2 (g : Option Addr) (i : Int) (cap : Option Addr) (h : Heap) (R : Int → Heap → Prop) :
    VF Tryz.prog [(506, [(48, .one (.int .i64))])] Tryz.f45 [.pointer g, .int .i64 i, .func (.func 54) #[] #[.pointer cap]] h [.one (.int .i64)] R = S_group_Group_comes_v2 g i cap h R := by kernel_rfl
theorem A_group_Group_comes_v2 {g : Option Addr} {i : Int} {cap : Option Addr} {h : Heap} {R : Int → Heap → Prop} (hs : S_group_Group_comes_v2 g i cap h R) : C_group_Group_comes g i (.func (.func 54) #[] #[.pointer cap]) h R :=
  use_ Tryz.func45 (by kernel_rfl) (E_group_Group_comes_v2 g i cap h R) hs

/-- (*group.Group).node$1 -/
def S_group_Group_node_1 (x : Option Addr) (fv : Addr) (h : Heap) (R : Int → Heap → Prop) : Prop :=
  Ld (.int .i64) h (fv.add 3) fun (Draw : Int) =>
  C_raft_Node_Tick x Draw h fun h_ =>
  R 0 h_
theorem E_group_Group_node_1 (x : Option Addr) (fv : Addr) (h : Heap) (R : Int → Heap → Prop) :
    VF Tryz.prog [] Tryz.f46 [.pointer x, .pointer (some fv)] h [.one (.int .i64)] R = S_group_Group_node_1 x fv h R := by kernel_rfl
theorem A_group_Group_node_1 {x : Option Addr} {fv : Addr} {h : Heap} {R : Int → Heap → Prop} (hs : S_group_Group_node_1 x fv h R) : C_group_Group_node_1 x (some fv) h R :=
  use_ Tryz.func46 (by kernel_rfl) (E_group_Group_node_1 x fv h R) hs

/-- (*group.Group).node$2 -/
def S_group_Group_node_2 (x : Option Addr) (fv : Addr) (h : Heap) (R : Int → Heap → Prop) : Prop :=
  Ld .str h (fv.add 7) fun (Data : ByteArray) =>
  C_raft_Node_Propose x Data h fun (r : Int) (r1 : Int) h_ =>
  R r1 h_
theorem E_group_Group_node_2 (x : Option Addr) (fv : Addr) (h : Heap) (R : Int → Heap → Prop) :
    VF Tryz.prog [] Tryz.f48 [.pointer x, .pointer (some fv)] h [.one (.int .i64)] R = S_group_Group_node_2 x fv h R := by kernel_rfl
theorem A_group_Group_node_2 {x : Option Addr} {fv : Addr} {h : Heap} {R : Int → Heap → Prop} (hs : S_group_Group_node_2 x fv h R) : C_group_Group_node_2 x (some fv) h R :=
  use_ Tryz.func48 (by kernel_rfl) (E_group_Group_node_2 x fv h R) hs

/-- (*group.Group).fall -/
def S_group_Group_fall (g : Option Addr) (i : Int) (s : KL [.int .i64, .int .i64, .int .i64, .int .i64, .int .i64, .int .i64, .int .u8, .str]) (h : Heap) (R : Heap → Prop) : Prop :=
  Alloc h (.cells #[.int .i64 s.1, .int .i64 s.2.1, .int .i64 s.2.2.1, .int .i64 s.2.2.2.1, .int .i64 s.2.2.2.2.1, .int .i64 s.2.2.2.2.2.1, .int .u8 s.2.2.2.2.2.2.1, .string s.2.2.2.2.2.2.2.1] 30) fun s1 h_ =>
  Nn g fun p =>
  Ld .sl h_ p fun (l : Sl) =>
  Ix l i 2 fun e =>
  St h_ (e.add 1) (.pointer none) fun h_1 =>
  Nn g fun p1 =>
  Ld .sl h_1 p1 fun (l1 : Sl) =>
  Ix l1 i 2 fun e1 =>
  Ld .ptr h_1 e1 fun (disk : Option Addr) =>
  Ld (.int .i64) h_1 (s1.add 4) fun (Keep : Int) =>
  Ld (.int .i64) h_1 (s1.add 5) fun (At_ : Int) =>
  Ld (.int .u8) h_1 (s1.add 6) fun (By : Int) =>
  C_disk_Disk_Crash disk Keep At_ By h_1 fun (r : Int) h_2 =>
  R h_2
theorem E_group_Group_fall (g : Option Addr) (i : Int) (s : KL [.int .i64, .int .i64, .int .i64, .int .i64, .int .i64, .int .i64, .int .u8, .str]) (h : Heap) (R : Heap → Prop) :
    VF Tryz.prog [] Tryz.f50 [.pointer g, .int .i64 i, .agg ⟨KL.vals [.int .i64, .int .i64, .int .i64, .int .i64, .int .i64, .int .i64, .int .u8, .str] s⟩] h [] R = S_group_Group_fall g i s h R := by kernel_rfl
theorem A_group_Group_fall {g : Option Addr} {i : Int} {s : KL [.int .i64, .int .i64, .int .i64, .int .i64, .int .i64, .int .i64, .int .u8, .str]} {h : Heap} {R : Heap → Prop} (hs : S_group_Group_fall g i s h R) : C_group_Group_fall g i s h R :=
  use_ Tryz.func50 (by kernel_rfl) (E_group_Group_fall g i s h R) hs

/-- (*net.Net[api.Message]).Double -/
def S_net_Net_api_Message_Double (n : Option Addr) (i : Int) (h : Heap) (R : Int → Heap → Prop) : Prop :=
  C_net_Net_api_Message_at n i h fun (r : Int) h_ =>
  (bif r != 0 then
    R r h_
  else
    Nn n fun p =>
    Ld .sl h_ p fun (l : Sl) =>
    Ix l i 9 fun e =>
    Ld (.int .i64) h_ e fun (x_Kind : Int) =>
    Ld (.int .i64) h_ (e.add 1) fun (x_From : Int) =>
    Ld (.int .i64) h_ (e.add 2) fun (x_To : Int) =>
    Ld (.int .i64) h_ (e.add 3) fun (x_Term : Int) =>
    Ld (.int .i64) h_ (e.add 4) fun (x_Index : Int) =>
    Ld (.int .i64) h_ (e.add 5) fun (x_LogTerm : Int) =>
    Ld (.int .i64) h_ (e.add 6) fun (x_Commit : Int) =>
    Ld .bool h_ (e.add 7) fun (x_Yes : Bool) =>
    Ld .sl h_ (e.add 8) fun (x_Entries : Sl) =>
    C_net_Net_api_Message_Send n (x_Kind, x_From, x_To, x_Term, x_Index, x_LogTerm, x_Commit, x_Yes, x_Entries, ()) h_ fun (r1 : Int) h_1 =>
    R r1 h_1
  )
theorem E_net_Net_api_Message_Double (n : Option Addr) (i : Int) (h : Heap) (R : Int → Heap → Prop) :
    VF Tryz.prog [] Tryz.f51 [.pointer n, .int .i64 i] h [.one (.int .i64)] R = S_net_Net_api_Message_Double n i h R := by kernel_rfl
theorem A_net_Net_api_Message_Double {n : Option Addr} {i : Int} {h : Heap} {R : Int → Heap → Prop} (hs : S_net_Net_api_Message_Double n i h R) : C_net_Net_api_Message_Double n i h R :=
  use_ Tryz.func51 (by kernel_rfl) (E_net_Net_api_Message_Double n i h R) hs

/-- (*net.Net[api.Message]).Take -/
def S_net_Net_api_Message_Take (n : Option Addr) (i : Int) (h : Heap) (R : KL [.int .i64, .int .i64, .int .i64, .int .i64, .int .i64, .int .i64, .int .i64, .bool, .sl] → Int → Heap → Prop) : Prop :=
  Alloc h (.cells #[.int .i64 0, .int .i64 0, .int .i64 0, .int .i64 0, .int .i64 0, .int .i64 0, .int .i64 0, .bool false, .slice none 0 0] 59) fun p h_ =>
  Alloc h_ (.cells #[.int .i64 0, .int .i64 0, .int .i64 0, .int .i64 0, .int .i64 0, .int .i64 0, .int .i64 0, .bool false, .slice none 0 0] 59) fun x h_1 =>
  C_net_Net_api_Message_at n i h_1 fun (r : Int) h_2 =>
  (bif r != 0 then
    Ld (.int .i64) h_2 x fun (x_Kind : Int) =>
    Ld (.int .i64) h_2 (x.add 1) fun (x_From : Int) =>
    Ld (.int .i64) h_2 (x.add 2) fun (x_To : Int) =>
    Ld (.int .i64) h_2 (x.add 3) fun (x_Term : Int) =>
    Ld (.int .i64) h_2 (x.add 4) fun (x_Index : Int) =>
    Ld (.int .i64) h_2 (x.add 5) fun (x_LogTerm : Int) =>
    Ld (.int .i64) h_2 (x.add 6) fun (x_Commit : Int) =>
    Ld .bool h_2 (x.add 7) fun (x_Yes : Bool) =>
    Ld .sl h_2 (x.add 8) fun (x_Entries : Sl) =>
    St h_2 p (.int .i64 x_Kind) fun h_3 =>
    St h_3 (p.add 1) (.int .i64 x_From) fun h_4 =>
    St h_4 (p.add 2) (.int .i64 x_To) fun h_5 =>
    St h_5 (p.add 3) (.int .i64 x_Term) fun h_6 =>
    St h_6 (p.add 4) (.int .i64 x_Index) fun h_7 =>
    St h_7 (p.add 5) (.int .i64 x_LogTerm) fun h_8 =>
    St h_8 (p.add 6) (.int .i64 x_Commit) fun h_9 =>
    St h_9 (p.add 7) (.bool x_Yes) fun h_10 =>
    St h_10 (p.add 8) (.slice x_Entries.a x_Entries.n x_Entries.c) fun h_11 =>
    Ld (.int .i64) h_11 p fun (r_0 : Int) =>
    Ld (.int .i64) h_11 (p.add 1) fun (r_1 : Int) =>
    Ld (.int .i64) h_11 (p.add 2) fun (r_2 : Int) =>
    Ld (.int .i64) h_11 (p.add 3) fun (r_3 : Int) =>
    Ld (.int .i64) h_11 (p.add 4) fun (r_4 : Int) =>
    Ld (.int .i64) h_11 (p.add 5) fun (r_5 : Int) =>
    Ld (.int .i64) h_11 (p.add 6) fun (r_6 : Int) =>
    Ld .bool h_11 (p.add 7) fun (r_7 : Bool) =>
    Ld .sl h_11 (p.add 8) fun (r_8 : Sl) =>
    R (r_0, r_1, r_2, r_3, r_4, r_5, r_6, r_7, r_8, ()) r h_11
  else
    Nn n fun p1 =>
    Ld .sl h_2 p1 fun (l : Sl) =>
    Ix l i 9 fun e =>
    Ld (.int .i64) h_2 e fun (x_Kind1 : Int) =>
    Ld (.int .i64) h_2 (e.add 1) fun (x_From1 : Int) =>
    Ld (.int .i64) h_2 (e.add 2) fun (x_To1 : Int) =>
    Ld (.int .i64) h_2 (e.add 3) fun (x_Term1 : Int) =>
    Ld (.int .i64) h_2 (e.add 4) fun (x_Index1 : Int) =>
    Ld (.int .i64) h_2 (e.add 5) fun (x_LogTerm1 : Int) =>
    Ld (.int .i64) h_2 (e.add 6) fun (x_Commit1 : Int) =>
    Ld .bool h_2 (e.add 7) fun (x_Yes1 : Bool) =>
    Ld .sl h_2 (e.add 8) fun (x_Entries1 : Sl) =>
    St h_2 x (.int .i64 x_Kind1) fun h_12 =>
    St h_12 (x.add 1) (.int .i64 x_From1) fun h_13 =>
    St h_13 (x.add 2) (.int .i64 x_To1) fun h_14 =>
    St h_14 (x.add 3) (.int .i64 x_Term1) fun h_15 =>
    St h_15 (x.add 4) (.int .i64 x_Index1) fun h_16 =>
    St h_16 (x.add 5) (.int .i64 x_LogTerm1) fun h_17 =>
    St h_17 (x.add 6) (.int .i64 x_Commit1) fun h_18 =>
    St h_18 (x.add 7) (.bool x_Yes1) fun h_19 =>
    St h_19 (x.add 8) (.slice x_Entries1.a x_Entries1.n x_Entries1.c) fun h_20 =>
    Nn n fun p2 =>
    Ld .sl h_20 p2 fun (l1 : Sl) =>
    C_slices_Delete_api_Message_api_Message l1 i (IntKind.i64.wrap (i + 1)) h_20 fun (r1 : Sl) h_21 =>
    Nn n fun p3 =>
    St h_21 p3 (.slice r1.a r1.n r1.c) fun h_22 =>
    Ld (.int .i64) h_22 x fun (x_Kind2 : Int) =>
    Ld (.int .i64) h_22 (x.add 1) fun (x_From2 : Int) =>
    Ld (.int .i64) h_22 (x.add 2) fun (x_To2 : Int) =>
    Ld (.int .i64) h_22 (x.add 3) fun (x_Term2 : Int) =>
    Ld (.int .i64) h_22 (x.add 4) fun (x_Index2 : Int) =>
    Ld (.int .i64) h_22 (x.add 5) fun (x_LogTerm2 : Int) =>
    Ld (.int .i64) h_22 (x.add 6) fun (x_Commit2 : Int) =>
    Ld .bool h_22 (x.add 7) fun (x_Yes2 : Bool) =>
    Ld .sl h_22 (x.add 8) fun (x_Entries2 : Sl) =>
    St h_22 p (.int .i64 x_Kind2) fun h_23 =>
    St h_23 (p.add 1) (.int .i64 x_From2) fun h_24 =>
    St h_24 (p.add 2) (.int .i64 x_To2) fun h_25 =>
    St h_25 (p.add 3) (.int .i64 x_Term2) fun h_26 =>
    St h_26 (p.add 4) (.int .i64 x_Index2) fun h_27 =>
    St h_27 (p.add 5) (.int .i64 x_LogTerm2) fun h_28 =>
    St h_28 (p.add 6) (.int .i64 x_Commit2) fun h_29 =>
    St h_29 (p.add 7) (.bool x_Yes2) fun h_30 =>
    St h_30 (p.add 8) (.slice x_Entries2.a x_Entries2.n x_Entries2.c) fun h_31 =>
    Ld (.int .i64) h_31 p fun (r_01 : Int) =>
    Ld (.int .i64) h_31 (p.add 1) fun (r_11 : Int) =>
    Ld (.int .i64) h_31 (p.add 2) fun (r_21 : Int) =>
    Ld (.int .i64) h_31 (p.add 3) fun (r_31 : Int) =>
    Ld (.int .i64) h_31 (p.add 4) fun (r_41 : Int) =>
    Ld (.int .i64) h_31 (p.add 5) fun (r_51 : Int) =>
    Ld (.int .i64) h_31 (p.add 6) fun (r_61 : Int) =>
    Ld .bool h_31 (p.add 7) fun (r_71 : Bool) =>
    Ld .sl h_31 (p.add 8) fun (r_81 : Sl) =>
    R (r_01, r_11, r_21, r_31, r_41, r_51, r_61, r_71, r_81, ()) 0 h_31
  )
theorem E_net_Net_api_Message_Take (n : Option Addr) (i : Int) (h : Heap) (R : KL [.int .i64, .int .i64, .int .i64, .int .i64, .int .i64, .int .i64, .int .i64, .bool, .sl] → Int → Heap → Prop) :
    VG Tryz.prog [] Tryz.f52 [.pointer n, .int .i64 i] h [.agg [.int .i64, .int .i64, .int .i64, .int .i64, .int .i64, .int .i64, .int .i64, .bool, .sl], .one (.int .i64)] R = S_net_Net_api_Message_Take n i h R := by kernel_rfl
theorem A_net_Net_api_Message_Take {n : Option Addr} {i : Int} {h : Heap} {R : KL [.int .i64, .int .i64, .int .i64, .int .i64, .int .i64, .int .i64, .int .i64, .bool, .sl] → Int → Heap → Prop} (hs : S_net_Net_api_Message_Take n i h R) : C_net_Net_api_Message_Take n i h R :=
  useG_SZ Tryz.func52 (by kernel_rfl) (E_net_Net_api_Message_Take n i h R) hs

/-- (*group.Group).deliver -/
def S_group_Group_deliver (g : Option Addr) (at_ : Int) (h : Heap) (R : KL [.int .i64, .int .i64, .int .i64, .int .i64, .int .i64, .int .i64, .int .i64, .bool, .sl] → Int → Heap → Prop) : Prop :=
  Alloc h (.cells #[.int .i64 0, .int .i64 0, .int .i64 0, .int .i64 0, .int .i64 0, .int .i64 0, .int .i64 0, .bool false, .slice none 0 0] 59) fun p h_ =>
  Nn g fun p1 =>
  Ld .ptr h_ (p1.add 1) fun (net : Option Addr) =>
  C_net_Net_api_Message_Take net at_ h_ fun (r : KL [.int .i64, .int .i64, .int .i64, .int .i64, .int .i64, .int .i64, .int .i64, .bool, .sl]) (r1 : Int) h_1 =>
  Alloc h_1 (.cells #[.int .i64 0, .int .i64 0, .int .i64 0, .int .i64 0, .int .i64 0, .int .i64 0, .int .i64 0, .bool false, .slice none 0 0] 59) fun m h_2 =>
  St h_2 m (.int .i64 r.1) fun h_3 =>
  St h_3 (m.add 1) (.int .i64 r.2.1) fun h_4 =>
  St h_4 (m.add 2) (.int .i64 r.2.2.1) fun h_5 =>
  St h_5 (m.add 3) (.int .i64 r.2.2.2.1) fun h_6 =>
  St h_6 (m.add 4) (.int .i64 r.2.2.2.2.1) fun h_7 =>
  St h_7 (m.add 5) (.int .i64 r.2.2.2.2.2.1) fun h_8 =>
  St h_8 (m.add 6) (.int .i64 r.2.2.2.2.2.2.1) fun h_9 =>
  St h_9 (m.add 7) (.bool r.2.2.2.2.2.2.2.1) fun h_10 =>
  St h_10 (m.add 8) (.slice r.2.2.2.2.2.2.2.2.1.a r.2.2.2.2.2.2.2.2.1.n r.2.2.2.2.2.2.2.2.1.c) fun h_11 =>
  (bif r1 == 0 then
    Ld (.int .i64) h_11 (m.add 2) fun (To : Int) =>
    C_group_Group_Node g To h_11 fun (r2 : Option Addr) h_12 =>
    (bif r2.isNone then
      Ld (.int .i64) h_12 m fun (x_Kind : Int) =>
      Ld (.int .i64) h_12 (m.add 1) fun (x_From : Int) =>
      Ld (.int .i64) h_12 (m.add 2) fun (x_To : Int) =>
      Ld (.int .i64) h_12 (m.add 3) fun (x_Term : Int) =>
      Ld (.int .i64) h_12 (m.add 4) fun (x_Index : Int) =>
      Ld (.int .i64) h_12 (m.add 5) fun (x_LogTerm : Int) =>
      Ld (.int .i64) h_12 (m.add 6) fun (x_Commit : Int) =>
      Ld .bool h_12 (m.add 7) fun (x_Yes : Bool) =>
      Ld .sl h_12 (m.add 8) fun (x_Entries : Sl) =>
      St h_12 p (.int .i64 x_Kind) fun h_13 =>
      St h_13 (p.add 1) (.int .i64 x_From) fun h_14 =>
      St h_14 (p.add 2) (.int .i64 x_To) fun h_15 =>
      St h_15 (p.add 3) (.int .i64 x_Term) fun h_16 =>
      St h_16 (p.add 4) (.int .i64 x_Index) fun h_17 =>
      St h_17 (p.add 5) (.int .i64 x_LogTerm) fun h_18 =>
      St h_18 (p.add 6) (.int .i64 x_Commit) fun h_19 =>
      St h_19 (p.add 7) (.bool x_Yes) fun h_20 =>
      St h_20 (p.add 8) (.slice x_Entries.a x_Entries.n x_Entries.c) fun h_21 =>
      Ld (.int .i64) h_21 p fun (r_0 : Int) =>
      Ld (.int .i64) h_21 (p.add 1) fun (r_1 : Int) =>
      Ld (.int .i64) h_21 (p.add 2) fun (r_2 : Int) =>
      Ld (.int .i64) h_21 (p.add 3) fun (r_3 : Int) =>
      Ld (.int .i64) h_21 (p.add 4) fun (r_4 : Int) =>
      Ld (.int .i64) h_21 (p.add 5) fun (r_5 : Int) =>
      Ld (.int .i64) h_21 (p.add 6) fun (r_6 : Int) =>
      Ld .bool h_21 (p.add 7) fun (r_7 : Bool) =>
      Ld .sl h_21 (p.add 8) fun (r_8 : Sl) =>
      R (r_0, r_1, r_2, r_3, r_4, r_5, r_6, r_7, r_8, ()) 12 h_21
    else
      Ld (.int .i64) h_12 m fun (x_Kind1 : Int) =>
      Ld (.int .i64) h_12 (m.add 1) fun (x_From1 : Int) =>
      Ld (.int .i64) h_12 (m.add 2) fun (x_To1 : Int) =>
      Ld (.int .i64) h_12 (m.add 3) fun (x_Term1 : Int) =>
      Ld (.int .i64) h_12 (m.add 4) fun (x_Index1 : Int) =>
      Ld (.int .i64) h_12 (m.add 5) fun (x_LogTerm1 : Int) =>
      Ld (.int .i64) h_12 (m.add 6) fun (x_Commit1 : Int) =>
      Ld .bool h_12 (m.add 7) fun (x_Yes1 : Bool) =>
      Ld .sl h_12 (m.add 8) fun (x_Entries1 : Sl) =>
      St h_12 p (.int .i64 x_Kind1) fun h_22 =>
      St h_22 (p.add 1) (.int .i64 x_From1) fun h_23 =>
      St h_23 (p.add 2) (.int .i64 x_To1) fun h_24 =>
      St h_24 (p.add 3) (.int .i64 x_Term1) fun h_25 =>
      St h_25 (p.add 4) (.int .i64 x_Index1) fun h_26 =>
      St h_26 (p.add 5) (.int .i64 x_LogTerm1) fun h_27 =>
      St h_27 (p.add 6) (.int .i64 x_Commit1) fun h_28 =>
      St h_28 (p.add 7) (.bool x_Yes1) fun h_29 =>
      St h_29 (p.add 8) (.slice x_Entries1.a x_Entries1.n x_Entries1.c) fun h_30 =>
      Ld (.int .i64) h_30 p fun (r_01 : Int) =>
      Ld (.int .i64) h_30 (p.add 1) fun (r_11 : Int) =>
      Ld (.int .i64) h_30 (p.add 2) fun (r_21 : Int) =>
      Ld (.int .i64) h_30 (p.add 3) fun (r_31 : Int) =>
      Ld (.int .i64) h_30 (p.add 4) fun (r_41 : Int) =>
      Ld (.int .i64) h_30 (p.add 5) fun (r_51 : Int) =>
      Ld (.int .i64) h_30 (p.add 6) fun (r_61 : Int) =>
      Ld .bool h_30 (p.add 7) fun (r_71 : Bool) =>
      Ld .sl h_30 (p.add 8) fun (r_81 : Sl) =>
      R (r_01, r_11, r_21, r_31, r_41, r_51, r_61, r_71, r_81, ()) r1 h_30
    )
  else
    Ld (.int .i64) h_11 m fun (x_Kind2 : Int) =>
    Ld (.int .i64) h_11 (m.add 1) fun (x_From2 : Int) =>
    Ld (.int .i64) h_11 (m.add 2) fun (x_To2 : Int) =>
    Ld (.int .i64) h_11 (m.add 3) fun (x_Term2 : Int) =>
    Ld (.int .i64) h_11 (m.add 4) fun (x_Index2 : Int) =>
    Ld (.int .i64) h_11 (m.add 5) fun (x_LogTerm2 : Int) =>
    Ld (.int .i64) h_11 (m.add 6) fun (x_Commit2 : Int) =>
    Ld .bool h_11 (m.add 7) fun (x_Yes2 : Bool) =>
    Ld .sl h_11 (m.add 8) fun (x_Entries2 : Sl) =>
    St h_11 p (.int .i64 x_Kind2) fun h_31 =>
    St h_31 (p.add 1) (.int .i64 x_From2) fun h_32 =>
    St h_32 (p.add 2) (.int .i64 x_To2) fun h_33 =>
    St h_33 (p.add 3) (.int .i64 x_Term2) fun h_34 =>
    St h_34 (p.add 4) (.int .i64 x_Index2) fun h_35 =>
    St h_35 (p.add 5) (.int .i64 x_LogTerm2) fun h_36 =>
    St h_36 (p.add 6) (.int .i64 x_Commit2) fun h_37 =>
    St h_37 (p.add 7) (.bool x_Yes2) fun h_38 =>
    St h_38 (p.add 8) (.slice x_Entries2.a x_Entries2.n x_Entries2.c) fun h_39 =>
    Ld (.int .i64) h_39 p fun (r_02 : Int) =>
    Ld (.int .i64) h_39 (p.add 1) fun (r_12 : Int) =>
    Ld (.int .i64) h_39 (p.add 2) fun (r_22 : Int) =>
    Ld (.int .i64) h_39 (p.add 3) fun (r_32 : Int) =>
    Ld (.int .i64) h_39 (p.add 4) fun (r_42 : Int) =>
    Ld (.int .i64) h_39 (p.add 5) fun (r_52 : Int) =>
    Ld (.int .i64) h_39 (p.add 6) fun (r_62 : Int) =>
    Ld .bool h_39 (p.add 7) fun (r_72 : Bool) =>
    Ld .sl h_39 (p.add 8) fun (r_82 : Sl) =>
    R (r_02, r_12, r_22, r_32, r_42, r_52, r_62, r_72, r_82, ()) r1 h_39
  )
theorem E_group_Group_deliver (g : Option Addr) (at_ : Int) (h : Heap) (R : KL [.int .i64, .int .i64, .int .i64, .int .i64, .int .i64, .int .i64, .int .i64, .bool, .sl] → Int → Heap → Prop) :
    VG Tryz.prog [] Tryz.f53 [.pointer g, .int .i64 at_] h [.agg [.int .i64, .int .i64, .int .i64, .int .i64, .int .i64, .int .i64, .int .i64, .bool, .sl], .one (.int .i64)] R = S_group_Group_deliver g at_ h R := by kernel_rfl
theorem A_group_Group_deliver {g : Option Addr} {at_ : Int} {h : Heap} {R : KL [.int .i64, .int .i64, .int .i64, .int .i64, .int .i64, .int .i64, .int .i64, .bool, .sl] → Int → Heap → Prop} (hs : S_group_Group_deliver g at_ h R) : C_group_Group_deliver g at_ h R :=
  useG_SZ Tryz.func53 (by kernel_rfl) (E_group_Group_deliver g at_ h R) hs

/-- (*group.Group).message$1 -/
def S_group_Group_message_1 (x : Option Addr) (fv : Addr) (h : Heap) (R : Int → Heap → Prop) : Prop :=
  Ld (.int .i64) h fv fun (x_Kind : Int) =>
  Ld (.int .i64) h (fv.add 1) fun (x_From : Int) =>
  Ld (.int .i64) h (fv.add 2) fun (x_To : Int) =>
  Ld (.int .i64) h (fv.add 3) fun (x_Term : Int) =>
  Ld (.int .i64) h (fv.add 4) fun (x_Index : Int) =>
  Ld (.int .i64) h (fv.add 5) fun (x_LogTerm : Int) =>
  Ld (.int .i64) h (fv.add 6) fun (x_Commit : Int) =>
  Ld .bool h (fv.add 7) fun (x_Yes : Bool) =>
  Ld .sl h (fv.add 8) fun (x_Entries : Sl) =>
  C_raft_Node_Step x (x_Kind, x_From, x_To, x_Term, x_Index, x_LogTerm, x_Commit, x_Yes, x_Entries, ()) h fun h_ =>
  R 0 h_
theorem E_group_Group_message_1 (x : Option Addr) (fv : Addr) (h : Heap) (R : Int → Heap → Prop) :
    VF Tryz.prog [] Tryz.f54 [.pointer x, .pointer (some fv)] h [.one (.int .i64)] R = S_group_Group_message_1 x fv h R := by kernel_rfl
theorem A_group_Group_message_1 {x : Option Addr} {fv : Addr} {h : Heap} {R : Int → Heap → Prop} (hs : S_group_Group_message_1 x fv h R) : C_group_Group_message_1 x (some fv) h R :=
  use_ Tryz.func54 (by kernel_rfl) (E_group_Group_message_1 x fv h R) hs

/-- (*group.Group).write -/
def S_group_Group_write (g : Option Addr) (i : Int) (h : Heap) (R : Int → Heap → Prop) : Prop :=
  Nn g fun p =>
  Ld .sl h p fun (l : Sl) =>
  Ix l i 2 fun e =>
  Ld .ptr h (e.add 1) fun (node : Option Addr) =>
  C_raft_Node_Save node h fun (r : KL [.bool, .int .i64, .int .i64, .int .i64, .sl]) (r1 : Bool) h_ =>
  Alloc h_ (.cells #[.bool false, .int .i64 0, .int .i64 0, .int .i64 0, .slice none 0 0] 123) fun s h_1 =>
  St h_1 s (.bool r.1) fun h_2 =>
  St h_2 (s.add 1) (.int .i64 r.2.1) fun h_3 =>
  St h_3 (s.add 2) (.int .i64 r.2.2.1) fun h_4 =>
  St h_4 (s.add 3) (.int .i64 r.2.2.2.1) fun h_5 =>
  St h_5 (s.add 4) (.slice r.2.2.2.2.1.a r.2.2.2.2.1.n r.2.2.2.2.1.c) fun h_6 =>
  (bif !r1 then
    R 0 h_6
  else
    Nn g fun p1 =>
    Ld .sl h_6 p1 fun (l1 : Sl) =>
    Ix l1 i 2 fun e1 =>
    Ld .ptr h_6 e1 fun (disk : Option Addr) =>
    Ld .bool h_6 s fun (x_Hard : Bool) =>
    Ld (.int .i64) h_6 (s.add 1) fun (x_Term : Int) =>
    Ld (.int .i64) h_6 (s.add 2) fun (x_Vote : Int) =>
    Ld (.int .i64) h_6 (s.add 3) fun (x_From : Int) =>
    Ld .sl h_6 (s.add 4) fun (x_Entries : Sl) =>
    C_hard_Write disk (x_Hard, x_Term, x_Vote, x_From, x_Entries, ()) h_6 fun (r2 : Int) h_7 =>
    R r2 h_7
  )
theorem E_group_Group_write (g : Option Addr) (i : Int) (h : Heap) (R : Int → Heap → Prop) :
    VF Tryz.prog [] Tryz.f56 [.pointer g, .int .i64 i] h [.one (.int .i64)] R = S_group_Group_write g i h R := by kernel_rfl
theorem A_group_Group_write {g : Option Addr} {i : Int} {h : Heap} {R : Int → Heap → Prop} (hs : S_group_Group_write g i h R) : C_group_Group_write g i h R :=
  use_ Tryz.func56 (by kernel_rfl) (E_group_Group_write g i h R) hs

/-- slices.Clone[[]api.Message,api.Message] -/
def S_slices_Clone_api_Message_api_Message (s : Sl) (h : Heap) (R : Sl → Heap → Prop) : Prop :=
  (bif s.a.isNone then
    R ⟨none, 0, 0⟩ h
  else
    Alloc h (.cells #[] 59) fun b h_ =>
    App Tryz.prog 54 54 ⟨some b, 0, 0⟩ s h_ fun s1 h_1 =>
    R s1 h_1
  )
theorem E_slices_Clone_api_Message_api_Message (s : Sl) (h : Heap) (R : Sl → Heap → Prop) :
    VF Tryz.prog [] Tryz.f66 [.slice s.a s.n s.c] h [.one .sl] R = S_slices_Clone_api_Message_api_Message s h R := by kernel_rfl
theorem A_slices_Clone_api_Message_api_Message {s : Sl} {h : Heap} {R : Sl → Heap → Prop} (hs : S_slices_Clone_api_Message_api_Message s h R) : C_slices_Clone_api_Message_api_Message s h R :=
  use_ Tryz.func66 (by kernel_rfl) (E_slices_Clone_api_Message_api_Message s h R) hs

/-- (*net.Net[api.Message]).Send -/
def S_net_Net_api_Message_Send (n : Option Addr) (x : KL [.int .i64, .int .i64, .int .i64, .int .i64, .int .i64, .int .i64, .int .i64, .bool, .sl]) (h : Heap) (R : Int → Heap → Prop) : Prop :=
  Alloc h (.cells #[.int .i64 x.1, .int .i64 x.2.1, .int .i64 x.2.2.1, .int .i64 x.2.2.2.1, .int .i64 x.2.2.2.2.1, .int .i64 x.2.2.2.2.2.1, .int .i64 x.2.2.2.2.2.2.1, .bool x.2.2.2.2.2.2.2.1, .slice x.2.2.2.2.2.2.2.2.1.a x.2.2.2.2.2.2.2.2.1.n x.2.2.2.2.2.2.2.2.1.c] 59) fun x1 h_ =>
  (bif n.isNone then
    R 1 h_
  else
    Nn n fun p =>
    Ld .sl h_ p fun (l : Sl) =>
    (bif decide ((l.n : Int) ≥ 512) then
      R 7 h_
    else
      Nn n fun p1 =>
      Ld .sl h_ p1 fun (l1 : Sl) =>
      Ld (.int .i64) h_ x1 fun (x_Kind : Int) =>
      Ld (.int .i64) h_ (x1.add 1) fun (x_From : Int) =>
      Ld (.int .i64) h_ (x1.add 2) fun (x_To : Int) =>
      Ld (.int .i64) h_ (x1.add 3) fun (x_Term : Int) =>
      Ld (.int .i64) h_ (x1.add 4) fun (x_Index : Int) =>
      Ld (.int .i64) h_ (x1.add 5) fun (x_LogTerm : Int) =>
      Ld (.int .i64) h_ (x1.add 6) fun (x_Commit : Int) =>
      Ld .bool h_ (x1.add 7) fun (x_Yes : Bool) =>
      Ld .sl h_ (x1.add 8) fun (x_Entries : Sl) =>
      Alloc h_ (.cells #[.int .i64 x_Kind, .int .i64 x_From, .int .i64 x_To, .int .i64 x_Term, .int .i64 x_Index, .int .i64 x_LogTerm, .int .i64 x_Commit, .bool x_Yes, .slice x_Entries.a x_Entries.n x_Entries.c] 59) fun b h_1 =>
      (Ld .sl h_1 p1 fun (l2 : Sl) => (.slice l2.a l2.n l2.c : Value) = .slice l1.a l1.n l1.c) ∧
      App Tryz.prog 54 54 l1 ⟨some b, 1, 1⟩ h_1 fun s h_2 =>
      Nn n fun p2 =>
      St h_2 p2 (.slice s.a s.n s.c) fun h_3 =>
      R 0 h_3
    )
  )
theorem E_net_Net_api_Message_Send (n : Option Addr) (x : KL [.int .i64, .int .i64, .int .i64, .int .i64, .int .i64, .int .i64, .int .i64, .bool, .sl]) (h : Heap) (R : Int → Heap → Prop) :
    VF Tryz.prog [] Tryz.f69 [.pointer n, .agg ⟨KL.vals [.int .i64, .int .i64, .int .i64, .int .i64, .int .i64, .int .i64, .int .i64, .bool, .sl] x⟩] h [.one (.int .i64)] R = S_net_Net_api_Message_Send n x h R := by kernel_rfl
theorem A_net_Net_api_Message_Send {n : Option Addr} {x : KL [.int .i64, .int .i64, .int .i64, .int .i64, .int .i64, .int .i64, .int .i64, .bool, .sl]} {h : Heap} {R : Int → Heap → Prop} (hs : S_net_Net_api_Message_Send n x h R) : C_net_Net_api_Message_Send n x h R :=
  use_ Tryz.func69 (by kernel_rfl) (E_net_Net_api_Message_Send n x h R) hs

/-- (*net.Net[api.Message]).at -/
def S_net_Net_api_Message_at (n : Option Addr) (i : Int) (h : Heap) (R : Int → Heap → Prop) : Prop :=
  (bif n.isNone then
    R 1 h
  else
    (bif decide (i < 0) then
      R 6 h
    else
      Nn n fun p =>
      Ld .sl h p fun (l : Sl) =>
      (bif decide (i ≥ (l.n : Int)) then
        R 6 h
      else
        R 0 h
      )
    )
  )
theorem E_net_Net_api_Message_at (n : Option Addr) (i : Int) (h : Heap) (R : Int → Heap → Prop) :
    VF Tryz.prog [] Tryz.f74 [.pointer n, .int .i64 i] h [.one (.int .i64)] R = S_net_Net_api_Message_at n i h R := by kernel_rfl
theorem A_net_Net_api_Message_at {n : Option Addr} {i : Int} {h : Heap} {R : Int → Heap → Prop} (hs : S_net_Net_api_Message_at n i h R) : C_net_Net_api_Message_at n i h R :=
  use_ Tryz.func74 (by kernel_rfl) (E_net_Net_api_Message_at n i h R) hs

/-- slices.Delete[[]api.Message,api.Message] -/
def S_slices_Delete_api_Message_api_Message (s : Sl) (i : Int) (j : Int) (h : Heap) (R : Sl → Heap → Prop) : Prop :=
  Cut Tryz.prog 54 s (some (.int .i64 i)) (some (.int .i64 j)) (some (.int .i64 (s.n : Int))) fun s1 =>
  (bif i == j then
    R s h
  else
    Let ((s.n : Int) : Int) fun oldlen =>
    Cut Tryz.prog 54 s none (some (.int .i64 i)) none fun s2 =>
    Cut Tryz.prog 54 s (some (.int .i64 j)) none none fun s3 =>
    App Tryz.prog 54 54 s2 s3 h fun s4 h_ =>
    Cut Tryz.prog 54 s4 (some (.int .i64 (s4.n : Int))) (some (.int .i64 oldlen)) none fun s5 =>
    OpT Tryz.prog (Builtin.clear_ #[54] 0 #[.slice s5.a s5.n s5.c]) h_ [] fun h_1 =>
    R s4 h_1
  )
theorem E_slices_Delete_api_Message_api_Message (s : Sl) (i : Int) (j : Int) (h : Heap) (R : Sl → Heap → Prop) :
    VF Tryz.prog [] Tryz.f75 [.slice s.a s.n s.c, .int .i64 i, .int .i64 j] h [.one .sl] R = S_slices_Delete_api_Message_api_Message s i j h R := by kernel_rfl
theorem A_slices_Delete_api_Message_api_Message {s : Sl} {i : Int} {j : Int} {h : Heap} {R : Sl → Heap → Prop} (hs : S_slices_Delete_api_Message_api_Message s i j h R) : C_slices_Delete_api_Message_api_Message s i j h R :=
  use_ Tryz.func75 (by kernel_rfl) (E_slices_Delete_api_Message_api_Message s i j h R) hs

end Go.Proofs.YtniojdaddolnfaaGreat
