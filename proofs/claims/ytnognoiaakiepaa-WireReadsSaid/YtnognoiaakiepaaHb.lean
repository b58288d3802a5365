/-
  Layer 6 (hard): contracts of what is read alone, of a save's records, and of writing them; the document's.
-/
import Derived.Test.YtnognoiaakiepaaHa
import Derived.Test.YtnognoiaakiepaaQ
import Derived.Test.YtnognoiaakiepaaV3
import Derived.Test.YtnognoiaakiepaaWb
import Derived.Test.YtnognoiaakiepaaSH
import Derived.Test.YtnognoiaakiepaaSHL
namespace Go.Proofs.Ytnognoiaakiepaa
open Go

def eEN : Enc Ent 2 := ⟨fun e => [.int .i64 e.t, .string (strB e.d)], fun _ => rfl, by decide, fun x u hu => by
  simp only [List.mem_cons, List.not_mem_nil, or_false] at hu
  rcases hu with rfl | rfl <;> rfl⟩
theorem TEN : ElemT Try.prog 79 90 2 24 := .of (by kernel_rfl)
theorem fa_snoc {α : Type} {Q : α → Prop} {l : List α} {k : Nat} (h : ∀ e ∈ l.take k, Q e) (hk : k < l.length) (hq : Q l[k]) : ∀ e ∈ l.take (k + 1), Q e := fun e he => by
  rw [take_snoc l k hk] at he
  rcases List.mem_append.1 he with he | he
  · exact h e he
  · rw [List.mem_singleton.1 he]; exact hq
theorem At.join2 {h0 h : Heap} {a b c : Res} {F : List Res} (H : At h0 h (a :: b :: F)) (hc : a.ok h → b.ok h → c.ok h) (hf : ∀ g, c.fp g → a.fp g ∨ b.fp g) : At h0 h (c :: F) := by
  obtain ⟨s1, s2⟩ := List.pairwise_cons.1 H.sep
  obtain ⟨s3, s4⟩ := List.pairwise_cons.1 s2
  have ma : a ∈ a :: b :: F := List.mem_cons_self ..
  have mb : b ∈ a :: b :: F := List.mem_cons_of_mem _ (List.mem_cons_self ..)
  refine ⟨H.ext, fun r hr => ?_, fun r hr g hg => ?_, List.pairwise_cons.2 ⟨fun r hr g hg => ?_, s4⟩⟩
  · rcases List.mem_cons.1 hr with rfl | hr
    · exact hc (H.ok _ ma) (H.ok _ mb)
    · exact H.ok r (List.mem_cons_of_mem _ (List.mem_cons_of_mem _ hr))
  · rcases List.mem_cons.1 hr with rfl | hr
    · rcases hf g hg with x | x
      · exact H.lo _ ma g x
      · exact H.lo _ mb g x
    · exact H.lo r (List.mem_cons_of_mem _ (List.mem_cons_of_mem _ hr)) g hg
  · rcases hf g hg with x | x
    · exact s1 r (List.mem_cons_of_mem _ hr) g x
    · exact s3 r hr g x
theorem At.subl {h0 h : Heap} {L L' : List Res} (H : At h0 h L) (s : L'.Sublist L) : At h0 h L' := ⟨H.ext, fun r hr => H.ok r (s.subset hr), fun r hr => H.lo r (s.subset hr), H.sep.sublist s⟩
/-- The records' bytes, as one thing. -/
def datW (bs : List BR) : Res := .any (fun g => ∃ a ∈ bs, 0 < (cB a.xs).length ∧ a.s.blk = some g) (fun h => ∀ a ∈ bs, RdS h 1 a.s (cB a.xs))
  (fun h h' hs hk h2 a ha => Res.keep (.rd a.s 1 (cB a.xs)) hs (fun g hg hl => hk g ⟨a, ha, hg⟩ hl) (h2 a ha))
  (fun h h2 g hg => by obtain ⟨a, ha, hg⟩ := hg; exact Res.lt (.rd a.s 1 (cB a.xs)) (h2 a ha) g hg)
/-- A record's bytes more. -/
theorem At.datS {h0 h : Heap} {F : List Res} {bs : List BR} {k : UInt8} {s : Sl} {xs : List UInt8} (H : At h0 h (.own s 1 (cB xs) :: datW bs :: F)) : At h0 h (datW (bs ++ [⟨k, s, xs⟩]) :: F) :=
  H.join2 (fun ha hb a hm => by
    rcases List.mem_append.1 hm with hm | hm
    · exact hb a hm
    · rw [List.mem_singleton.1 hm]; exact Own.rd ha) fun g hg => by
    obtain ⟨a, hm, h1, h2⟩ := hg
    rcases List.mem_append.1 hm with hm | hm
    · exact .inr ⟨a, hm, h1, h2⟩
    · rw [List.mem_singleton.1 hm] at h2; exact .inl h2
section
variable {h0 hB h : Heap} {L F : List Res} {d p : Nat} {ty : TypeId} {s sd : Sl} {b : List UInt8} {n : Nat} {es : List Ent} {bs : List BR} {rs : List WRec}
theorem wIntA {xs : List UInt8} {m : Int} {R : Sl → Heap → Prop} (H : At h0 h L) (i : Nat) (hi : L[i]? = some (.own s 1 (cB xs))) (hlen : xs.length ≤ 1000000000000)
    (hR : ∀ s' h', At h0 h' (L.set i (.own s' 1 (cB (xs ++ be8 m)))) → R s' h') : C_word_Int s m h R :=
  word_IntP (H.get i hi) hlen fun s' h' o g => hR s' h' (H.turn i hi (r' := .own s' 1 (cB (xs ++ be8 m))) g.upd o g.stp.grow)
theorem wTextA {xs : List UInt8} {t : ByteArray} {R : Sl → Heap → Prop} (H : At h0 h L) (i : Nat) (hi : L[i]? = some (.own s 1 (cB xs))) (hlen : xs.length ≤ 1000000000000)
    (hR : ∀ s' h', At h0 h' (L.set i (.own s' 1 (cB (xs ++ txt t.data.toList)))) → R s' h') : C_word_Text s t h R :=
  word_TextP (H.get i hi) hlen fun s' h' o g => hR s' h' (H.turn i hi (r' := .own s' 1 (cB (xs ++ txt t.data.toList))) g.upd o g.stp.grow)
theorem wBoolA {xs : List UInt8} {t : Bool} {R : Sl → Heap → Prop} (H : At h0 h L) (i : Nat) (hi : L[i]? = some (.own s 1 (cB xs))) (hlen : xs.length ≤ 1000000000000)
    (hR : ∀ s' h', At h0 h' (L.set i (.own s' 1 (cB (xs ++ tru t)))) → R s' h') : C_word_Bool s t h R :=
  word_BoolP (H.get i hi) hlen fun s' h' o g => hR s' h' (H.turn i hi (r' := .own s' 1 (cB (xs ++ tru t))) g.upd o g.stp.grow)

/-! ## few, plain, Right, Same -/
theorem law06_few_ok {a : Bool} {t v f : Int} {R : Bool → Heap → Prop} (hr : RdS hB 2 s (eEN.fl es)) (hl : es.length ≤ 1000000000000000)
    (hR : ∀ (w : Bool) h', Ext hB.size hB h' → (w = true → es.length ≤ 12 ∧ ∀ e ∈ es, e.d.length ≤ 600) → R w h') : C_law06_few (a, t, v, f, s, ()) hB R := by
  refine A_law06_few ?_
  unfold S_law06_few
  have hn := rdn hr
  refine allocAt (At.start hB) fun h1 p1 H => ldAt H 0 rfl s rfl ?_
  refine loop1 (s1 := .one (.int .i64)) (fun (x : Int) h2 => ∃ k : Nat, x = k ∧ k ≤ es.length ∧ At hB h2 [.blk p1 111 [.bool a, .int .i64 t, .int .i64 v, .int .i64 f, .slice s.a s.n s.c]] ∧ ∀ e ∈ es.take k, e.d.length ≤ 600) (fun (x : Int) _ => (es.length - x).toNat)
    ⟨0, rfl, Nat.zero_le _, H, (fun e he => by cases he)⟩ fun _ (x : Int) h2 hI => ?_
  obtain ⟨k, rfl, hk, H, hle⟩ := hI
  refine brD (fun hc => ?_) fun hc => ?_
  · have hk2 : k < es.length := by omega
    refine ixR (H.arg hr) k rfl hk2 fun e he => ?_
    repeat (first | with_reducible refine nn ?_ | with_reducible refine let_ ?_ | with_reducible refine brSome ?_ | with_reducible refine brF ?_ | with_reducible refine brT ?_ | ((with_reducible apply ldAt H 0); exact rfl; exact rfl) | ((with_reducible apply ldAt0 H 0); exact rfl; exact rfl) | ((with_reducible apply ldAt H 1); exact rfl; exact rfl) | ((with_reducible apply ldAt0 H 1); exact rfl; exact rfl) | ((with_reducible apply ldR (H.arg hr)); assumption; (case hk => assumption); exact rfl) | ((with_reducible apply ldR0 (H.arg hr)); assumption; (case hk => assumption); exact rfl) | ((with_reducible apply stAt H 0); exact rfl; exact rfl; intro h H) | ((with_reducible apply stAt0 H 0); exact rfl; exact rfl; intro h H) | ((with_reducible apply stAt H 1); exact rfl; exact rfl; intro h H) | ((with_reducible apply stAt0 H 1); exact rfl; exact rfl; intro h H) | ((with_reducible apply allocAt H); intro h b H) | ((with_reducible refine ⟨?_, ?_⟩); first | ((with_reducible apply ldAt H 0); exact rfl; exact rfl; exact rfl) | ((with_reducible apply ldAt0 H 0); exact rfl; exact rfl; exact rfl) | ((with_reducible apply ldAt H 1); exact rfl; exact rfl; exact rfl) | ((with_reducible apply ldAt0 H 1); exact rfl; exact rfl; exact rfl)))
    rw [strB_size]
    refine brD (fun _ => hR _ _ H.ext fun h => by cases h) fun hc2 => ?_
    rw [w64 (by omega) (by omega)]
    exact ⟨⟨k + 1, by omega, by omega, H.tail, fa_snoc hle hk2 (by omega)⟩, by omega⟩
  · have hkl : k = es.length := by omega
    subst hkl
    rw [List.take_length] at hle
    refine ldAt H 0 rfl s rfl (hR _ _ H.ext fun hd => ⟨?_, hle⟩)
    have := of_decide_eq_true hd
    omega
theorem law06_plain_ok {R : Sl → Heap → Prop} (hw : RdS hB 2 s (eBR.fl bs) ∧ ∀ a ∈ bs, RdS hB 1 a.s (cB a.xs)) (hl : bs.length ≤ 1000000000)
    (hR : ∀ out h', Own h' 2 out (eRS.fl (bs.map BR.rec_)) → out.from_ hB.size → Ext hB.size hB h' → R out h') : C_law06_plain s hB R := by
  refine A_law06_plain ?_
  unfold S_law06_plain
  obtain ⟨hr, hd⟩ := hw
  have hn := rdn hr
  refine loop2 (s1 := .one .sl) (s2 := .one (.int .i64)) (fun (out : Sl) (x : Int) h2 => ∃ k : Nat, x = k ∧ k ≤ bs.length ∧ At hB h2 [.own out 2 (eRS.fl ((bs.take k).map BR.rec_))]) (fun _ (x : Int) _ => (bs.length - x).toNat)
    ⟨0, rfl, Nat.zero_le _, (At.start hB).nil 2⟩ fun _ (out : Sl) (x : Int) h2 hI => ?_
  obtain ⟨k, rfl, hk, H⟩ := hI
  refine brD (fun hc => ?_) fun hc => ?_
  · have hk2 : k < bs.length := by omega
    refine ixR (H.arg hr) k rfl hk2 fun e he => ?_
    repeat (first | with_reducible refine nn ?_ | with_reducible refine let_ ?_ | with_reducible refine brSome ?_ | with_reducible refine brF ?_ | with_reducible refine brT ?_ | ((with_reducible apply ldAt H 0); exact rfl; exact rfl) | ((with_reducible apply ldAt0 H 0); exact rfl; exact rfl) | ((with_reducible apply ldAt H 1); exact rfl; exact rfl) | ((with_reducible apply ldAt0 H 1); exact rfl; exact rfl) | ((with_reducible apply ldR (H.arg hr)); assumption; (case hk => assumption); exact rfl) | ((with_reducible apply ldR0 (H.arg hr)); assumption; (case hk => assumption); exact rfl) | ((with_reducible apply stAt H 0); exact rfl; exact rfl; intro h H) | ((with_reducible apply stAt0 H 0); exact rfl; exact rfl; intro h H) | ((with_reducible apply stAt H 1); exact rfl; exact rfl; intro h H) | ((with_reducible apply stAt0 H 1); exact rfl; exact rfl; intro h H) | ((with_reducible apply allocAt H); intro h b H) | ((with_reducible refine ⟨?_, ?_⟩); first | ((with_reducible apply ldAt H 0); exact rfl; exact rfl; exact rfl) | ((with_reducible apply ldAt0 H 0); exact rfl; exact rfl; exact rfl) | ((with_reducible apply ldAt H 1); exact rfl; exact rfl; exact rfl) | ((with_reducible apply ldAt0 H 1); exact rfl; exact rfl; exact rfl)))
    refine toS BT (H.arg (hd _ (List.getElem_mem hk2))) ?_
    refine app1At (E := eRS) TRS H 1 rfl bs[k].rec_ (by rw [List.length_map, List.length_take]; omega) (by rw [List.length_map, List.length_take]; omega) fun s3 h3 H => ?_
    rw [w64 (by omega) (by omega)]
    refine ⟨⟨k + 1, by omega, by omega, ?_⟩, by omega⟩
    rw [take_snoc bs k hk2, List.map_append]
    exact H.tail
  · have hkl : k = bs.length := by omega
    subst hkl
    rw [List.take_length] at H
    exact hR out h2 (H.own 0 rfl) (H.from_ 0 rfl) H.ext
theorem hard_Right_ok {t v : Int} {R : Bool → Heap → Prop} (hr : RdS hB 2 s (eEN.fl es)) (hl : es.length ≤ 1000000000000000) (hR : ∀ h', Ext hB.size hB h' → R (rightM ⟨t, v, es⟩) h') : C_hard_Right (t, v, s, ()) hB R := by
  refine A_hard_Right ?_
  unfold S_hard_Right
  have hn := rdn hr
  unfold rightM at hR
  simp only at hR
  have bad : (t < 0 ∨ 1099511627776 < t ∨ v < -1 ∨ 6 < v ∨ 1024 < es.length) → ∀ h', Ext hB.size hB h' → R false h' := fun hb h' e => by
    have := hR h' e
    rwa [if_pos hb] at this
  refine allocAt (At.start hB) fun h1 p1 H => ldAt0 H 0 rfl t rfl ?_
  refine brD (fun hc => bad (by omega) _ H.ext) fun c1 => ldAt0 H 0 rfl t rfl (brD (fun hc => bad (by omega) _ H.ext) fun c2 => ldAt H 0 rfl v rfl (brD (fun hc => bad (by omega) _ H.ext) fun c3 => ldAt H 0 rfl v rfl (brD (fun hc => bad (by omega) _ H.ext) fun c4 => ldAt H 0 rfl s rfl (brD (fun hc => bad (by omega) _ H.ext) fun c5 => ldAt H 0 rfl s rfl ?_))))
  have hR2 : ∀ h', Ext hB.size hB h' → R (rightE t 1 es) h' := fun h' e => by
    have := hR h' e
    rwa [if_neg (by omega)] at this
  refine loop2 (s1 := .one (.int .i64)) (s2 := .one (.int .i64)) (fun (last x : Int) h2 => ∃ k : Nat, x = k ∧ k ≤ es.length ∧ At hB h2 [.blk p1 119 [.int .i64 t, .int .i64 v, .slice s.a s.n s.c]] ∧ rightE t last (es.drop k) = rightE t 1 es) (fun _ (x : Int) _ => (es.length - x).toNat)
    ⟨0, rfl, Nat.zero_le _, H, rfl⟩ fun _ (last x : Int) h2 hI => ?_
  obtain ⟨k, rfl, hk, H, hle⟩ := hI
  refine brD (fun hc => ?_) fun hc => ?_
  · have hk2 : k < es.length := by omega
    rw [List.drop_eq_getElem_cons hk2, rightE] at hle
    refine ixR (H.arg hr) k rfl hk2 fun e he => ?_
    repeat (first | with_reducible refine nn ?_ | with_reducible refine let_ ?_ | with_reducible refine brSome ?_ | with_reducible refine brF ?_ | with_reducible refine brT ?_ | ((with_reducible apply ldAt H 0); exact rfl; exact rfl) | ((with_reducible apply ldAt0 H 0); exact rfl; exact rfl) | ((with_reducible apply ldAt H 1); exact rfl; exact rfl) | ((with_reducible apply ldAt0 H 1); exact rfl; exact rfl) | ((with_reducible apply ldR (H.arg hr)); assumption; (case hk => assumption); exact rfl) | ((with_reducible apply ldR0 (H.arg hr)); assumption; (case hk => assumption); exact rfl) | ((with_reducible apply stAt H 0); exact rfl; exact rfl; intro h H) | ((with_reducible apply stAt0 H 0); exact rfl; exact rfl; intro h H) | ((with_reducible apply stAt H 1); exact rfl; exact rfl; intro h H) | ((with_reducible apply stAt0 H 1); exact rfl; exact rfl; intro h H) | ((with_reducible apply allocAt H); intro h b H) | ((with_reducible refine ⟨?_, ?_⟩); first | ((with_reducible apply ldAt H 0); exact rfl; exact rfl; exact rfl) | ((with_reducible apply ldAt0 H 0); exact rfl; exact rfl; exact rfl) | ((with_reducible apply ldAt H 1); exact rfl; exact rfl; exact rfl) | ((with_reducible apply ldAt0 H 1); exact rfl; exact rfl; exact rfl)))
    have bad2 : (es[k].t < last ∨ t < es[k].t ∨ 512 < (es[k].d.length : Int)) → ∀ h', Ext hB.size hB h' → R false h' := fun hb h' e => by
      have := hR2 h' e
      rwa [← hle, if_pos hb] at this
    refine brD (fun hc => bad2 (by omega) _ H.ext) fun d1 => ?_
    repeat (first | with_reducible refine nn ?_ | with_reducible refine let_ ?_ | with_reducible refine brSome ?_ | with_reducible refine brF ?_ | with_reducible refine brT ?_ | ((with_reducible apply ldAt H 0); exact rfl; exact rfl) | ((with_reducible apply ldAt0 H 0); exact rfl; exact rfl) | ((with_reducible apply ldAt H 1); exact rfl; exact rfl) | ((with_reducible apply ldAt0 H 1); exact rfl; exact rfl) | ((with_reducible apply stAt H 0); exact rfl; exact rfl; intro h H) | ((with_reducible apply stAt0 H 0); exact rfl; exact rfl; intro h H) | ((with_reducible apply stAt H 1); exact rfl; exact rfl; intro h H) | ((with_reducible apply stAt0 H 1); exact rfl; exact rfl; intro h H) | ((with_reducible apply allocAt H); intro h b H) | ((with_reducible refine ⟨?_, ?_⟩); first | ((with_reducible apply ldAt H 0); exact rfl; exact rfl; exact rfl) | ((with_reducible apply ldAt0 H 0); exact rfl; exact rfl; exact rfl) | ((with_reducible apply ldAt H 1); exact rfl; exact rfl; exact rfl) | ((with_reducible apply ldAt0 H 1); exact rfl; exact rfl; exact rfl)))
    refine brD (fun hc => bad2 (by omega) _ H.ext) fun d2 => ?_
    repeat (first | with_reducible refine nn ?_ | with_reducible refine let_ ?_ | with_reducible refine brSome ?_ | with_reducible refine brF ?_ | with_reducible refine brT ?_ | ((with_reducible apply ldAt H 0); exact rfl; exact rfl) | ((with_reducible apply ldAt0 H 0); exact rfl; exact rfl) | ((with_reducible apply ldAt H 1); exact rfl; exact rfl) | ((with_reducible apply ldAt0 H 1); exact rfl; exact rfl) | ((with_reducible apply stAt H 0); exact rfl; exact rfl; intro h H) | ((with_reducible apply stAt0 H 0); exact rfl; exact rfl; intro h H) | ((with_reducible apply stAt H 1); exact rfl; exact rfl; intro h H) | ((with_reducible apply stAt0 H 1); exact rfl; exact rfl; intro h H) | ((with_reducible apply allocAt H); intro h b H) | ((with_reducible refine ⟨?_, ?_⟩); first | ((with_reducible apply ldAt H 0); exact rfl; exact rfl; exact rfl) | ((with_reducible apply ldAt0 H 0); exact rfl; exact rfl; exact rfl) | ((with_reducible apply ldAt H 1); exact rfl; exact rfl; exact rfl) | ((with_reducible apply ldAt0 H 1); exact rfl; exact rfl; exact rfl)))
    rw [strB_size]
    refine brD (fun hc => bad2 (by omega) _ H.ext) fun d3 => ?_
    repeat (first | with_reducible refine nn ?_ | with_reducible refine let_ ?_ | with_reducible refine brSome ?_ | with_reducible refine brF ?_ | with_reducible refine brT ?_ | ((with_reducible apply ldAt H 0); exact rfl; exact rfl) | ((with_reducible apply ldAt0 H 0); exact rfl; exact rfl) | ((with_reducible apply ldAt H 1); exact rfl; exact rfl) | ((with_reducible apply ldAt0 H 1); exact rfl; exact rfl) | ((with_reducible apply stAt H 0); exact rfl; exact rfl; intro h H) | ((with_reducible apply stAt0 H 0); exact rfl; exact rfl; intro h H) | ((with_reducible apply stAt H 1); exact rfl; exact rfl; intro h H) | ((with_reducible apply stAt0 H 1); exact rfl; exact rfl; intro h H) | ((with_reducible apply allocAt H); intro h b H) | ((with_reducible refine ⟨?_, ?_⟩); first | ((with_reducible apply ldAt H 0); exact rfl; exact rfl; exact rfl) | ((with_reducible apply ldAt0 H 0); exact rfl; exact rfl; exact rfl) | ((with_reducible apply ldAt H 1); exact rfl; exact rfl; exact rfl) | ((with_reducible apply ldAt0 H 1); exact rfl; exact rfl; exact rfl)))
    rw [w64 (by omega) (by omega)]
    rw [if_neg (by omega)] at hle
    exact ⟨⟨k + 1, by omega, by omega, H.tail, hle⟩, by omega⟩
  · have hkl : k = es.length := by omega
    subst hkl
    rw [List.drop_length] at hle
    have := hR2 h2 H.ext
    rw [← hle] at this
    exact this
theorem ref06_Right_ok {t v : Int} {R : Bool → Heap → Prop} (hr : RdS hB 2 s (eEN.fl es)) (hl : es.length ≤ 1000000000000000) (hR : ∀ h', Ext hB.size hB h' → R (rightM ⟨t, v, es⟩) h') : C_ref06_Right (t, v, s, ()) hB R := by
  refine A_ref06_Right ?_
  unfold S_ref06_Right
  have hn := rdn hr
  unfold rightM at hR
  simp only at hR
  have bad : (t < 0 ∨ 1099511627776 < t ∨ v < -1 ∨ 6 < v ∨ 1024 < es.length) → ∀ h', Ext hB.size hB h' → R false h' := fun hb h' e => by
    have := hR h' e
    rwa [if_pos hb] at this
  refine allocAt (At.start hB) fun h1 p1 H => ldAt0 H 0 rfl t rfl ?_
  refine brD (fun hc => bad (by omega) _ H.ext) fun c1 => ldAt0 H 0 rfl t rfl (brD (fun hc => bad (by omega) _ H.ext) fun c2 => ldAt H 0 rfl v rfl (brD (fun hc => bad (by omega) _ H.ext) fun c3 => ldAt H 0 rfl v rfl (brD (fun hc => bad (by omega) _ H.ext) fun c4 => ldAt H 0 rfl s rfl (brD (fun hc => bad (by omega) _ H.ext) fun c5 => ldAt H 0 rfl s rfl ?_))))
  have hR2 : ∀ h', Ext hB.size hB h' → R (rightE t 1 es) h' := fun h' e => by
    have := hR h' e
    rwa [if_neg (by omega)] at this
  refine loop2 (s1 := .one (.int .i64)) (s2 := .one (.int .i64)) (fun (last x : Int) h2 => ∃ k : Nat, x = k ∧ k ≤ es.length ∧ At hB h2 [.blk p1 119 [.int .i64 t, .int .i64 v, .slice s.a s.n s.c]] ∧ rightE t last (es.drop k) = rightE t 1 es) (fun _ (x : Int) _ => (es.length - x).toNat)
    ⟨0, rfl, Nat.zero_le _, H, rfl⟩ fun _ (last x : Int) h2 hI => ?_
  obtain ⟨k, rfl, hk, H, hle⟩ := hI
  refine brD (fun hc => ?_) fun hc => ?_
  · have hk2 : k < es.length := by omega
    rw [List.drop_eq_getElem_cons hk2, rightE] at hle
    refine ixR (H.arg hr) k rfl hk2 fun e he => ?_
    repeat (first | with_reducible refine nn ?_ | with_reducible refine let_ ?_ | with_reducible refine brSome ?_ | with_reducible refine brF ?_ | with_reducible refine brT ?_ | ((with_reducible apply ldAt H 0); exact rfl; exact rfl) | ((with_reducible apply ldAt0 H 0); exact rfl; exact rfl) | ((with_reducible apply ldAt H 1); exact rfl; exact rfl) | ((with_reducible apply ldAt0 H 1); exact rfl; exact rfl) | ((with_reducible apply ldR (H.arg hr)); assumption; (case hk => assumption); exact rfl) | ((with_reducible apply ldR0 (H.arg hr)); assumption; (case hk => assumption); exact rfl) | ((with_reducible apply stAt H 0); exact rfl; exact rfl; intro h H) | ((with_reducible apply stAt0 H 0); exact rfl; exact rfl; intro h H) | ((with_reducible apply stAt H 1); exact rfl; exact rfl; intro h H) | ((with_reducible apply stAt0 H 1); exact rfl; exact rfl; intro h H) | ((with_reducible apply allocAt H); intro h b H) | ((with_reducible refine ⟨?_, ?_⟩); first | ((with_reducible apply ldAt H 0); exact rfl; exact rfl; exact rfl) | ((with_reducible apply ldAt0 H 0); exact rfl; exact rfl; exact rfl) | ((with_reducible apply ldAt H 1); exact rfl; exact rfl; exact rfl) | ((with_reducible apply ldAt0 H 1); exact rfl; exact rfl; exact rfl)))
    have bad2 : (es[k].t < last ∨ t < es[k].t ∨ 512 < (es[k].d.length : Int)) → ∀ h', Ext hB.size hB h' → R false h' := fun hb h' e => by
      have := hR2 h' e
      rwa [← hle, if_pos hb] at this
    refine brD (fun hc => bad2 (by omega) _ H.ext) fun d1 => ?_
    repeat (first | with_reducible refine nn ?_ | with_reducible refine let_ ?_ | with_reducible refine brSome ?_ | with_reducible refine brF ?_ | with_reducible refine brT ?_ | ((with_reducible apply ldAt H 0); exact rfl; exact rfl) | ((with_reducible apply ldAt0 H 0); exact rfl; exact rfl) | ((with_reducible apply ldAt H 1); exact rfl; exact rfl) | ((with_reducible apply ldAt0 H 1); exact rfl; exact rfl) | ((with_reducible apply stAt H 0); exact rfl; exact rfl; intro h H) | ((with_reducible apply stAt0 H 0); exact rfl; exact rfl; intro h H) | ((with_reducible apply stAt H 1); exact rfl; exact rfl; intro h H) | ((with_reducible apply stAt0 H 1); exact rfl; exact rfl; intro h H) | ((with_reducible apply allocAt H); intro h b H) | ((with_reducible refine ⟨?_, ?_⟩); first | ((with_reducible apply ldAt H 0); exact rfl; exact rfl; exact rfl) | ((with_reducible apply ldAt0 H 0); exact rfl; exact rfl; exact rfl) | ((with_reducible apply ldAt H 1); exact rfl; exact rfl; exact rfl) | ((with_reducible apply ldAt0 H 1); exact rfl; exact rfl; exact rfl)))
    refine brD (fun hc => bad2 (by omega) _ H.ext) fun d2 => ?_
    repeat (first | with_reducible refine nn ?_ | with_reducible refine let_ ?_ | with_reducible refine brSome ?_ | with_reducible refine brF ?_ | with_reducible refine brT ?_ | ((with_reducible apply ldAt H 0); exact rfl; exact rfl) | ((with_reducible apply ldAt0 H 0); exact rfl; exact rfl) | ((with_reducible apply ldAt H 1); exact rfl; exact rfl) | ((with_reducible apply ldAt0 H 1); exact rfl; exact rfl) | ((with_reducible apply stAt H 0); exact rfl; exact rfl; intro h H) | ((with_reducible apply stAt0 H 0); exact rfl; exact rfl; intro h H) | ((with_reducible apply stAt H 1); exact rfl; exact rfl; intro h H) | ((with_reducible apply stAt0 H 1); exact rfl; exact rfl; intro h H) | ((with_reducible apply allocAt H); intro h b H) | ((with_reducible refine ⟨?_, ?_⟩); first | ((with_reducible apply ldAt H 0); exact rfl; exact rfl; exact rfl) | ((with_reducible apply ldAt0 H 0); exact rfl; exact rfl; exact rfl) | ((with_reducible apply ldAt H 1); exact rfl; exact rfl; exact rfl) | ((with_reducible apply ldAt0 H 1); exact rfl; exact rfl; exact rfl)))
    rw [strB_size]
    refine brD (fun hc => bad2 (by omega) _ H.ext) fun d3 => ?_
    repeat (first | with_reducible refine nn ?_ | with_reducible refine let_ ?_ | with_reducible refine brSome ?_ | with_reducible refine brF ?_ | with_reducible refine brT ?_ | ((with_reducible apply ldAt H 0); exact rfl; exact rfl) | ((with_reducible apply ldAt0 H 0); exact rfl; exact rfl) | ((with_reducible apply ldAt H 1); exact rfl; exact rfl) | ((with_reducible apply ldAt0 H 1); exact rfl; exact rfl) | ((with_reducible apply stAt H 0); exact rfl; exact rfl; intro h H) | ((with_reducible apply stAt0 H 0); exact rfl; exact rfl; intro h H) | ((with_reducible apply stAt H 1); exact rfl; exact rfl; intro h H) | ((with_reducible apply stAt0 H 1); exact rfl; exact rfl; intro h H) | ((with_reducible apply allocAt H); intro h b H) | ((with_reducible refine ⟨?_, ?_⟩); first | ((with_reducible apply ldAt H 0); exact rfl; exact rfl; exact rfl) | ((with_reducible apply ldAt0 H 0); exact rfl; exact rfl; exact rfl) | ((with_reducible apply ldAt H 1); exact rfl; exact rfl; exact rfl) | ((with_reducible apply ldAt0 H 1); exact rfl; exact rfl; exact rfl)))
    rw [w64 (by omega) (by omega)]
    rw [if_neg (by omega)] at hle
    exact ⟨⟨k + 1, by omega, by omega, H.tail, hle⟩, by omega⟩
  · have hkl : k = es.length := by omega
    subst hkl
    rw [List.drop_length] at hle
    have := hR2 h2 H.ext
    rw [← hle] at this
    exact this
theorem ent_eq (a c : Ent) : eqL (eEN.cells a) (eEN.cells c) = true ↔ a = c := by
  simp only [eEN, eqL, eqB, strB_toList, Bool.and_true, Bool.and_eq_true, beq_iff_eq]
  cases a; cases c; simp
theorem ref06_Same_ok {t1 v1 t2 v2 : Int} {s1 s2 : Sl} {e1 e2 : List Ent} {R : Bool → Heap → Prop} (h1 : RdS hB 2 s1 (eEN.fl e1)) (h2 : RdS hB 2 s2 (eEN.fl e2)) (hl : e1.length ≤ 1000000000000000)
    (hR : ∀ (w : Bool) h', Ext hB.size hB h' → (w = true ↔ (⟨t1, v1, e1⟩ : Stt) = ⟨t2, v2, e2⟩) → R w h') : C_ref06_Same (t1, v1, s1, ()) (t2, v2, s2, ()) hB R := by
  refine A_ref06_Same ?_
  unfold S_ref06_Same
  have hn1 := rdn h1
  have hn2 := rdn h2
  have no : ¬ (t1 = t2 ∧ v1 = v2 ∧ e1 = e2) → ∀ h', Ext hB.size hB h' → R false h' := fun hne h' e => hR false h' e ⟨(fun x => by cases x), fun x => absurd (by simpa using x) hne⟩
  refine allocAt (At.start hB) fun h1' p1 H => allocAt H fun h2' p2 H => ?_
  refine ldAt0 H 1 rfl t1 rfl (ldAt0 H 0 rfl t2 rfl (brB (fun hb => no (fun x => by rw [bne_iff_ne] at hb; exact hb x.1) _ H.ext) fun c1 => ?_))
  refine ldAt H 1 rfl v1 rfl (ldAt H 0 rfl v2 rfl (brB (fun hb => no (fun x => by rw [bne_iff_ne] at hb; exact hb x.2.1) _ H.ext) fun c2 => ?_))
  refine ldAt H 1 rfl s1 rfl (ldAt H 0 rfl s2 rfl (brB (fun hb => no (fun x => by rw [bne_iff_ne] at hb; apply hb; rw [hn1, hn2, x.2.2]) _ H.ext) fun c3 => ldAt H 1 rfl s1 rfl ?_))
  rw [bne_eq_false_iff_eq] at c1 c2 c3
  have hlen : e1.length = e2.length := by omega
  refine loop1 (s1 := .one (.int .i64)) (fun (x : Int) h3 => ∃ k : Nat, x = k ∧ k ≤ e1.length ∧ At hB h3 [.blk p2 119 [.int .i64 t2, .int .i64 v2, .slice s2.a s2.n s2.c], .blk p1 119 [.int .i64 t1, .int .i64 v1, .slice s1.a s1.n s1.c]] ∧ e1.take k = e2.take k) (fun (x : Int) _ => (e1.length - x).toNat)
    ⟨0, rfl, Nat.zero_le _, H, rfl⟩ fun _ (x : Int) h3 hI => ?_
  obtain ⟨k, rfl, hk, H, hle⟩ := hI
  refine brD (fun hc => ?_) fun hc => ?_
  · have hk1 : k < e1.length := by omega
    have hk2 : k < e2.length := by omega
    refine ldAt H 1 rfl s1 rfl (ixR (H.arg h1) k rfl hk1 fun e he => ldR0 (H.arg h1) he hk1 e1[k].t rfl (ldR (H.arg h1) he hk1 (strB e1[k].d) rfl ?_))
    refine ldAt H 0 rfl s2 rfl (ixR (H.arg h2) k rfl hk2 fun e he => ldR0 (H.arg h2) he hk2 e2[k].t rfl (ldR (H.arg h2) he hk2 (strB e2[k].d) rfl ?_))
    refine opNeq (us := eEN.cells e1[k]) (vs := eEN.cells e2[k]) (by kernel_rfl) (brB (fun hb => ?_) fun hb => ?_)
    · refine no (fun x => ?_) _ H.ext
      have : e1[k] = e2[k] := by
        have := congrArg (·[k]?) x.2.2
        simpa [List.getElem?_eq_getElem hk1, List.getElem?_eq_getElem hk2] using this
      rw [(ent_eq _ _).2 this] at hb
      cases hb
    · have he : e1[k] = e2[k] := (ent_eq _ _).1 (by simpa using hb)
      rw [w64 (by omega) (by omega)]
      exact ⟨⟨k + 1, by omega, by omega, H, by rw [take_snoc e1 k hk1, take_snoc e2 k hk2, hle, he]⟩, by omega⟩
  · have hkl : k = e1.length := by omega
    subst hkl
    rw [List.take_length, hlen, List.take_length] at hle
    exact hR true h3 H.ext ⟨fun _ => by rw [c1, c2, hle], fun _ => rfl⟩

/-! ## Records -/
theorem savR_pos {s : Sav} {r : WRec} (hr : r ∈ savR s) : 0 < r.data.length := by
  rcases List.mem_append.1 hr with hr | hr
  · split at hr
    · rw [List.mem_singleton.1 hr]; simp [be8_length]
    · cases hr
  · rw [List.mem_mapIdx] at hr
    obtain ⟨k, hk, rfl⟩ := hr
    simp only [entR, List.length_append, be8_length]
    omega
theorem ref06_Records_ok {a : Bool} {t v f : Int} {R : Sl → Heap → Prop} (hr : RdS hB 2 s (eEN.fl es)) (hl : es.length ≤ 1000000) (hd : ∀ e ∈ es, e.d.length ≤ 1000000)
    (hR : ∀ out h', Own h' 2 out (eRS.fl (savR ⟨a, t, v, f, es⟩)) → out.from_ hB.size → Ext hB.size hB h' → R out h') : C_ref06_Records (a, t, v, f, s, ()) hB R := by
  refine A_ref06_Records ?_
  unfold S_ref06_Records
  have hn := rdn hr
  refine allocAt (At.start hB) fun h1 p1 H => ldAt0 H 0 rfl a rfl ?_
  refine join1 (s1 := .one .sl) (fun (out : Sl) h2 => At hB h2 [.own out 2 (eRS.fl (if a then [⟨1, be8 t ++ be8 v⟩] else [])), .blk p1 111 [.bool a, .int .i64 t, .int .i64 v, .int .i64 f, .slice s.a s.n s.c]]) (fun _ (out : Sl) h2 H => ?_) ?_
  · have hpl : (if a then [(⟨1, be8 t ++ be8 v⟩ : WRec)] else []).length ≤ 1 := by split <;> simp
    have hsv : savR ⟨a, t, v, f, es⟩ = (if a then [(⟨1, be8 t ++ be8 v⟩ : WRec)] else []) ++ es.mapIdx (entR f) := rfl
    generalize (if a then [(⟨1, be8 t ++ be8 v⟩ : WRec)] else []) = pre at *
    refine ldAt H 1 rfl s rfl ?_
    refine loop2 (s1 := .one .sl) (s2 := .one (.int .i64)) (fun (out : Sl) (x : Int) h3 => ∃ k : Nat, x = k ∧ k ≤ es.length ∧ At hB h3 [.own out 2 (eRS.fl (pre ++ (es.mapIdx (entR f)).take k)), .blk p1 111 [.bool a, .int .i64 t, .int .i64 v, .int .i64 f, .slice s.a s.n s.c]]) (fun _ (x : Int) _ => (es.length - x).toNat)
      ⟨0, rfl, Nat.zero_le _, by rw [List.take_zero, List.append_nil]; exact H⟩ fun _ (out : Sl) (x : Int) h3 hI => ?_
    obtain ⟨k, rfl, hk, H⟩ := hI
    refine brD (fun hc => ?_) fun hc => ?_
    · have hk2 : k < es.length := by omega
      have hdk := hd _ (List.getElem_mem hk2)
      refine ixR (H.arg hr) k rfl hk2 fun e he => ?_
      repeat (first | with_reducible refine nn ?_ | with_reducible refine let_ ?_ | with_reducible refine brSome ?_ | with_reducible refine brF ?_ | with_reducible refine brT ?_ | ((with_reducible apply ldAt H 0); exact rfl; exact rfl) | ((with_reducible apply ldAt0 H 0); exact rfl; exact rfl) | ((with_reducible apply ldAt H 1); exact rfl; exact rfl) | ((with_reducible apply ldAt0 H 1); exact rfl; exact rfl) | ((with_reducible apply ldAt H 2); exact rfl; exact rfl) | ((with_reducible apply ldAt0 H 2); exact rfl; exact rfl) | ((with_reducible apply ldR (H.arg hr)); assumption; (case hk => assumption); exact rfl) | ((with_reducible apply ldR0 (H.arg hr)); assumption; (case hk => assumption); exact rfl) | ((with_reducible apply stAt H 0); exact rfl; exact rfl; intro h H) | ((with_reducible apply stAt0 H 0); exact rfl; exact rfl; intro h H) | ((with_reducible apply stAt H 1); exact rfl; exact rfl; intro h H) | ((with_reducible apply stAt0 H 1); exact rfl; exact rfl; intro h H) | ((with_reducible apply stAt H 2); exact rfl; exact rfl; intro h H) | ((with_reducible apply stAt0 H 2); exact rfl; exact rfl; intro h H) | ((with_reducible apply allocAt H); intro h b H) | ((with_reducible refine ⟨?_, ?_⟩); first | ((with_reducible apply ldAt H 0); exact rfl; exact rfl; exact rfl) | ((with_reducible apply ldAt0 H 0); exact rfl; exact rfl; exact rfl) | ((with_reducible apply ldAt H 1); exact rfl; exact rfl; exact rfl) | ((with_reducible apply ldAt0 H 1); exact rfl; exact rfl; exact rfl) | ((with_reducible apply ldAt H 2); exact rfl; exact rfl; exact rfl) | ((with_reducible apply ldAt0 H 2); exact rfl; exact rfl; exact rfl)))
      refine ref01_IntP fun h4 e4 => ?_
      have H := H.ext' e4
      repeat (first | with_reducible refine nn ?_ | with_reducible refine let_ ?_ | with_reducible refine brSome ?_ | with_reducible refine brF ?_ | with_reducible refine brT ?_ | ((with_reducible apply ldAt H 0); exact rfl; exact rfl) | ((with_reducible apply ldAt0 H 0); exact rfl; exact rfl) | ((with_reducible apply ldAt H 1); exact rfl; exact rfl) | ((with_reducible apply ldAt0 H 1); exact rfl; exact rfl) | ((with_reducible apply ldAt H 2); exact rfl; exact rfl) | ((with_reducible apply ldAt0 H 2); exact rfl; exact rfl) | ((with_reducible apply stAt H 0); exact rfl; exact rfl; intro h H) | ((with_reducible apply stAt0 H 0); exact rfl; exact rfl; intro h H) | ((with_reducible apply stAt H 1); exact rfl; exact rfl; intro h H) | ((with_reducible apply stAt0 H 1); exact rfl; exact rfl; intro h H) | ((with_reducible apply stAt H 2); exact rfl; exact rfl; intro h H) | ((with_reducible apply stAt0 H 2); exact rfl; exact rfl; intro h H) | ((with_reducible apply allocAt H); intro h b H) | ((with_reducible refine ⟨?_, ?_⟩); first | ((with_reducible apply ldAt H 0); exact rfl; exact rfl; exact rfl) | ((with_reducible apply ldAt0 H 0); exact rfl; exact rfl; exact rfl) | ((with_reducible apply ldAt H 1); exact rfl; exact rfl; exact rfl) | ((with_reducible apply ldAt0 H 1); exact rfl; exact rfl; exact rfl) | ((with_reducible apply ldAt H 2); exact rfl; exact rfl; exact rfl) | ((with_reducible apply ldAt0 H 2); exact rfl; exact rfl; exact rfl)))
      refine ref01_IntP fun h5 e5 => ?_
      have H := H.ext' e5
      repeat (first | with_reducible refine nn ?_ | with_reducible refine let_ ?_ | with_reducible refine brSome ?_ | with_reducible refine brF ?_ | with_reducible refine brT ?_ | ((with_reducible apply ldAt H 0); exact rfl; exact rfl) | ((with_reducible apply ldAt0 H 0); exact rfl; exact rfl) | ((with_reducible apply ldAt H 1); exact rfl; exact rfl) | ((with_reducible apply ldAt0 H 1); exact rfl; exact rfl) | ((with_reducible apply ldAt H 2); exact rfl; exact rfl) | ((with_reducible apply ldAt0 H 2); exact rfl; exact rfl) | ((with_reducible apply stAt H 0); exact rfl; exact rfl; intro h H) | ((with_reducible apply stAt0 H 0); exact rfl; exact rfl; intro h H) | ((with_reducible apply stAt H 1); exact rfl; exact rfl; intro h H) | ((with_reducible apply stAt0 H 1); exact rfl; exact rfl; intro h H) | ((with_reducible apply stAt H 2); exact rfl; exact rfl; intro h H) | ((with_reducible apply stAt0 H 2); exact rfl; exact rfl; intro h H) | ((with_reducible apply allocAt H); intro h b H) | ((with_reducible refine ⟨?_, ?_⟩); first | ((with_reducible apply ldAt H 0); exact rfl; exact rfl; exact rfl) | ((with_reducible apply ldAt0 H 0); exact rfl; exact rfl; exact rfl) | ((with_reducible apply ldAt H 1); exact rfl; exact rfl; exact rfl) | ((with_reducible apply ldAt0 H 1); exact rfl; exact rfl; exact rfl) | ((with_reducible apply ldAt H 2); exact rfl; exact rfl; exact rfl) | ((with_reducible apply ldAt0 H 2); exact rfl; exact rfl; exact rfl)))
      refine cat (by rw [strB_size, strB_size, be8_length, be8_length]; omega) (ref01_TextP (by rw [strB_size]; omega) fun h6 e6 => cat (by
        rw [strB_data, strB_append, strB_size, strB_size, List.length_append, be8_length, be8_length, txt_length]; omega) ?_)
      have H := H.ext' e6
      rw [strB_data, strB_append, strB_append]
      have hln : (pre ++ (es.mapIdx (entR f)).take k).length ≤ 1 + es.length := by rw [List.length_append, List.length_take, List.length_mapIdx]; omega
      refine app1At (E := eRS) TRS H 1 rfl (entR f k es[k]) (by omega) (by omega) fun s7 h7 H => ?_
      rw [w64 (by omega) (by omega)]
      refine ⟨⟨k + 1, by omega, by omega, ?_⟩, by omega⟩
      rw [take_snoc _ k (by rw [List.length_mapIdx]; exact hk2), List.getElem_mapIdx, ← List.append_assoc]
      exact H.tail
    · have hkl : k = es.length := by omega
      subst hkl
      rw [List.take_of_length_le (by rw [List.length_mapIdx]; exact Nat.le_refl _), ← hsv] at H
      exact hR out h3 (H.own 0 rfl) (H.from_ 0 rfl) H.ext
  · cases a with
    | false => exact brF (H.nil 2)
    | true =>
      refine brT ?_
      repeat (first | with_reducible refine nn ?_ | with_reducible refine let_ ?_ | with_reducible refine brSome ?_ | with_reducible refine brF ?_ | with_reducible refine brT ?_ | ((with_reducible apply ldAt H 0); exact rfl; exact rfl) | ((with_reducible apply ldAt0 H 0); exact rfl; exact rfl) | ((with_reducible apply stAt H 0); exact rfl; exact rfl; intro h H) | ((with_reducible apply stAt0 H 0); exact rfl; exact rfl; intro h H) | ((with_reducible apply allocAt H); intro h b H) | ((with_reducible refine ⟨?_, ?_⟩); first | ((with_reducible apply ldAt H 0); exact rfl; exact rfl; exact rfl) | ((with_reducible apply ldAt0 H 0); exact rfl; exact rfl; exact rfl)))
      refine ref01_IntP fun h4 e4 => ?_
      have H := H.ext' e4
      repeat (first | with_reducible refine nn ?_ | with_reducible refine let_ ?_ | with_reducible refine brSome ?_ | with_reducible refine brF ?_ | with_reducible refine brT ?_ | ((with_reducible apply ldAt H 0); exact rfl; exact rfl) | ((with_reducible apply ldAt0 H 0); exact rfl; exact rfl) | ((with_reducible apply stAt H 0); exact rfl; exact rfl; intro h H) | ((with_reducible apply stAt0 H 0); exact rfl; exact rfl; intro h H) | ((with_reducible apply allocAt H); intro h b H) | ((with_reducible refine ⟨?_, ?_⟩); first | ((with_reducible apply ldAt H 0); exact rfl; exact rfl; exact rfl) | ((with_reducible apply ldAt0 H 0); exact rfl; exact rfl; exact rfl)))
      refine ref01_IntP fun h5 e5 => ?_
      have H := H.ext' e5
      refine cat (by rw [strB_size, strB_size, be8_length, be8_length]; omega) ?_
      rw [strB_append]
      exact app1At (E := eRS) (l := []) TRS (H.nil 2) 0 rfl ⟨1, be8 t ++ be8 v⟩ (by decide) (by decide) fun s6 h6 H => H
theorem hard_Records_ok {a : Bool} {t v f : Int} {R : Sl → Heap → Prop} (hr : RdS hB 2 s (eEN.fl es)) (hl : es.length ≤ 1000000)
    (hR : ∀ out bs h', OutW hB.size h' out bs → (∀ a ∈ bs, a.s.n ≤ a.s.c) → bs.map BR.rec_ = savR ⟨a, t, v, f, es⟩ → Ext hB.size hB h' → R out h') : C_hard_Records (a, t, v, f, s, ()) hB R := by
  refine A_hard_Records ?_
  unfold S_hard_Records
  have hn := rdn hr
  refine allocAt (At.start hB) fun h1 p1 H => ldAt0 H 0 rfl a rfl ?_
  refine join1 (s1 := .one .sl) (fun (out : Sl) h2 => ∃ bs, At hB h2 [datW bs, .own out 2 (eBR.fl bs), .blk p1 111 [.bool a, .int .i64 t, .int .i64 v, .int .i64 f, .slice s.a s.n s.c]] ∧ (∀ a ∈ bs, a.s.n ≤ a.s.c) ∧ bs.map BR.rec_ = (if a then [⟨1, be8 t ++ be8 v⟩] else [])) (fun _ (out : Sl) h2 hJ => ?_) ?_
  · obtain ⟨bs0, H, hcp0, hbs0⟩ := hJ
    have hpl : (if a then [(⟨1, be8 t ++ be8 v⟩ : WRec)] else []).length ≤ 1 := by split <;> simp
    have hsv : savR ⟨a, t, v, f, es⟩ = (if a then [(⟨1, be8 t ++ be8 v⟩ : WRec)] else []) ++ es.mapIdx (entR f) := rfl
    generalize (if a then [(⟨1, be8 t ++ be8 v⟩ : WRec)] else []) = pre at *
    refine ldAt H 2 rfl s rfl ?_
    refine loop2 (s1 := .one .sl) (s2 := .one (.int .i64)) (fun (out : Sl) (x : Int) h3 => ∃ (k : Nat) (bs : List BR), x = k ∧ k ≤ es.length ∧ At hB h3 [datW bs, .own out 2 (eBR.fl bs), .blk p1 111 [.bool a, .int .i64 t, .int .i64 v, .int .i64 f, .slice s.a s.n s.c]] ∧ (∀ a ∈ bs, a.s.n ≤ a.s.c) ∧ bs.map BR.rec_ = pre ++ (es.mapIdx (entR f)).take k) (fun _ (x : Int) _ => (es.length - x).toNat)
      ⟨0, bs0, rfl, Nat.zero_le _, H, hcp0, by rw [List.take_zero, List.append_nil]; exact hbs0⟩ fun _ (out : Sl) (x : Int) h3 hI => ?_
    obtain ⟨k, bs, rfl, hk, H, hcp, hbs⟩ := hI
    have hln : bs.length ≤ 1 + es.length := by
      have := congrArg List.length hbs
      rw [List.length_map, List.length_append, List.length_take, List.length_mapIdx] at this
      omega
    refine brD (fun hc => ?_) fun hc => ?_
    · have hk2 : k < es.length := by omega
      refine ixR (H.arg hr) k rfl hk2 fun e he => ?_
      repeat (first | with_reducible refine nn ?_ | with_reducible refine let_ ?_ | with_reducible refine brSome ?_ | with_reducible refine brF ?_ | with_reducible refine brT ?_ | ((with_reducible apply ldAt H 0); exact rfl; exact rfl) | ((with_reducible apply ldAt0 H 0); exact rfl; exact rfl) | ((with_reducible apply ldAt H 1); exact rfl; exact rfl) | ((with_reducible apply ldAt0 H 1); exact rfl; exact rfl) | ((with_reducible apply ldAt H 2); exact rfl; exact rfl) | ((with_reducible apply ldAt0 H 2); exact rfl; exact rfl) | ((with_reducible apply ldAt H 3); exact rfl; exact rfl) | ((with_reducible apply ldAt0 H 3); exact rfl; exact rfl) | ((with_reducible apply ldR (H.arg hr)); assumption; (case hk => assumption); exact rfl) | ((with_reducible apply ldR0 (H.arg hr)); assumption; (case hk => assumption); exact rfl) | ((with_reducible apply stAt H 0); exact rfl; exact rfl; intro h H) | ((with_reducible apply stAt0 H 0); exact rfl; exact rfl; intro h H) | ((with_reducible apply stAt H 1); exact rfl; exact rfl; intro h H) | ((with_reducible apply stAt0 H 1); exact rfl; exact rfl; intro h H) | ((with_reducible apply stAt H 2); exact rfl; exact rfl; intro h H) | ((with_reducible apply stAt0 H 2); exact rfl; exact rfl; intro h H) | ((with_reducible apply stAt H 3); exact rfl; exact rfl; intro h H) | ((with_reducible apply stAt0 H 3); exact rfl; exact rfl; intro h H) | ((with_reducible apply allocAt H); intro h b H) | ((with_reducible refine ⟨?_, ?_⟩); first | ((with_reducible apply ldAt H 0); exact rfl; exact rfl; exact rfl) | ((with_reducible apply ldAt0 H 0); exact rfl; exact rfl; exact rfl) | ((with_reducible apply ldAt H 1); exact rfl; exact rfl; exact rfl) | ((with_reducible apply ldAt0 H 1); exact rfl; exact rfl; exact rfl) | ((with_reducible apply ldAt H 2); exact rfl; exact rfl; exact rfl) | ((with_reducible apply ldAt0 H 2); exact rfl; exact rfl; exact rfl) | ((with_reducible apply ldAt H 3); exact rfl; exact rfl; exact rfl) | ((with_reducible apply ldAt0 H 3); exact rfl; exact rfl; exact rfl)))
      refine wIntA (xs := []) (H.nil 1) 0 rfl (by decide) fun s4 h4 H => ?_
      repeat (first | with_reducible refine nn ?_ | with_reducible refine let_ ?_ | with_reducible refine brSome ?_ | with_reducible refine brF ?_ | with_reducible refine brT ?_ | ((with_reducible apply ldAt H 0); exact rfl; exact rfl) | ((with_reducible apply ldAt0 H 0); exact rfl; exact rfl) | ((with_reducible apply ldAt H 1); exact rfl; exact rfl) | ((with_reducible apply ldAt0 H 1); exact rfl; exact rfl) | ((with_reducible apply ldAt H 2); exact rfl; exact rfl) | ((with_reducible apply ldAt0 H 2); exact rfl; exact rfl) | ((with_reducible apply ldAt H 3); exact rfl; exact rfl) | ((with_reducible apply ldAt0 H 3); exact rfl; exact rfl) | ((with_reducible apply ldAt H 4); exact rfl; exact rfl) | ((with_reducible apply ldAt0 H 4); exact rfl; exact rfl) | ((with_reducible apply stAt H 0); exact rfl; exact rfl; intro h H) | ((with_reducible apply stAt0 H 0); exact rfl; exact rfl; intro h H) | ((with_reducible apply stAt H 1); exact rfl; exact rfl; intro h H) | ((with_reducible apply stAt0 H 1); exact rfl; exact rfl; intro h H) | ((with_reducible apply stAt H 2); exact rfl; exact rfl; intro h H) | ((with_reducible apply stAt0 H 2); exact rfl; exact rfl; intro h H) | ((with_reducible apply stAt H 3); exact rfl; exact rfl; intro h H) | ((with_reducible apply stAt0 H 3); exact rfl; exact rfl; intro h H) | ((with_reducible apply stAt H 4); exact rfl; exact rfl; intro h H) | ((with_reducible apply stAt0 H 4); exact rfl; exact rfl; intro h H) | ((with_reducible apply allocAt H); intro h b H) | ((with_reducible refine ⟨?_, ?_⟩); first | ((with_reducible apply ldAt H 0); exact rfl; exact rfl; exact rfl) | ((with_reducible apply ldAt0 H 0); exact rfl; exact rfl; exact rfl) | ((with_reducible apply ldAt H 1); exact rfl; exact rfl; exact rfl) | ((with_reducible apply ldAt0 H 1); exact rfl; exact rfl; exact rfl) | ((with_reducible apply ldAt H 2); exact rfl; exact rfl; exact rfl) | ((with_reducible apply ldAt0 H 2); exact rfl; exact rfl; exact rfl) | ((with_reducible apply ldAt H 3); exact rfl; exact rfl; exact rfl) | ((with_reducible apply ldAt0 H 3); exact rfl; exact rfl; exact rfl) | ((with_reducible apply ldAt H 4); exact rfl; exact rfl; exact rfl) | ((with_reducible apply ldAt0 H 4); exact rfl; exact rfl; exact rfl)))
      refine wIntA (xs := _) H 0 rfl (by simp [be8_length]) fun s5 h5 H => ?_
      repeat (first | with_reducible refine nn ?_ | with_reducible refine let_ ?_ | with_reducible refine brSome ?_ | with_reducible refine brF ?_ | with_reducible refine brT ?_ | ((with_reducible apply ldAt H 0); exact rfl; exact rfl) | ((with_reducible apply ldAt0 H 0); exact rfl; exact rfl) | ((with_reducible apply ldAt H 1); exact rfl; exact rfl) | ((with_reducible apply ldAt0 H 1); exact rfl; exact rfl) | ((with_reducible apply ldAt H 2); exact rfl; exact rfl) | ((with_reducible apply ldAt0 H 2); exact rfl; exact rfl) | ((with_reducible apply ldAt H 3); exact rfl; exact rfl) | ((with_reducible apply ldAt0 H 3); exact rfl; exact rfl) | ((with_reducible apply ldAt H 4); exact rfl; exact rfl) | ((with_reducible apply ldAt0 H 4); exact rfl; exact rfl) | ((with_reducible apply stAt H 0); exact rfl; exact rfl; intro h H) | ((with_reducible apply stAt0 H 0); exact rfl; exact rfl; intro h H) | ((with_reducible apply stAt H 1); exact rfl; exact rfl; intro h H) | ((with_reducible apply stAt0 H 1); exact rfl; exact rfl; intro h H) | ((with_reducible apply stAt H 2); exact rfl; exact rfl; intro h H) | ((with_reducible apply stAt0 H 2); exact rfl; exact rfl; intro h H) | ((with_reducible apply stAt H 3); exact rfl; exact rfl; intro h H) | ((with_reducible apply stAt0 H 3); exact rfl; exact rfl; intro h H) | ((with_reducible apply stAt H 4); exact rfl; exact rfl; intro h H) | ((with_reducible apply stAt0 H 4); exact rfl; exact rfl; intro h H) | ((with_reducible apply allocAt H); intro h b H) | ((with_reducible refine ⟨?_, ?_⟩); first | ((with_reducible apply ldAt H 0); exact rfl; exact rfl; exact rfl) | ((with_reducible apply ldAt0 H 0); exact rfl; exact rfl; exact rfl) | ((with_reducible apply ldAt H 1); exact rfl; exact rfl; exact rfl) | ((with_reducible apply ldAt0 H 1); exact rfl; exact rfl; exact rfl) | ((with_reducible apply ldAt H 2); exact rfl; exact rfl; exact rfl) | ((with_reducible apply ldAt0 H 2); exact rfl; exact rfl; exact rfl) | ((with_reducible apply ldAt H 3); exact rfl; exact rfl; exact rfl) | ((with_reducible apply ldAt0 H 3); exact rfl; exact rfl; exact rfl) | ((with_reducible apply ldAt H 4); exact rfl; exact rfl; exact rfl) | ((with_reducible apply ldAt0 H 4); exact rfl; exact rfl; exact rfl)))
      refine wTextA (xs := _) H 0 rfl (by simp [be8_length]) fun s6 h6 H => ?_
      rw [strB_data, List.nil_append] at H
      have hc6 := (H.own 0 rfl).2.1
      refine app1At (E := eBR) TWR H 3 rfl ⟨2, s6, be8 (IntKind.i64.wrap (f + (k : Int))) ++ be8 es[k].t ++ txt es[k].d⟩ (by omega) (by omega) fun s7 h7 H => ?_
      rw [w64 (by omega) (by omega)]
      refine ⟨⟨k + 1, _, by omega, by omega, At.datS (k := 2) (H.del 1), ?_, ?_⟩, by omega⟩
      · intro x hx
        rcases List.mem_append.1 hx with hx | hx
        · exact hcp x hx
        · rw [List.mem_singleton.1 hx]; exact hc6
      · rw [take_snoc _ k (by rw [List.length_mapIdx]; exact hk2), List.getElem_mapIdx, ← List.append_assoc, List.map_append, hbs]
        rfl
    · have hkl : k = es.length := by omega
      subst hkl
      rw [List.take_of_length_le (by rw [List.length_mapIdx]; exact Nat.le_refl _), ← hsv] at hbs
      refine hR out bs h3 ⟨H.rdo 1 rfl, H.from_ 1 rfl, fun x ha => ⟨H.get 0 rfl x ha, fun g hg => ?_⟩⟩ hcp hbs H.ext
      by_cases h0 : 0 < (cB x.xs).length
      · exact H.from_ 0 rfl g ⟨x, ha, h0, hg⟩
      · have hm : x.rec_ ∈ savR ⟨a, t, v, f, es⟩ := by rw [← hbs]; exact List.mem_map_of_mem ha
        have := savR_pos hm
        exact absurd (by rw [cB_length]; exact this) h0
  · cases a with
    | false =>
      refine brF ⟨[], (H.nil 2).new (Ext.refl _ _) (r := datW []) (fun a ha => by cases ha) (fun g hg => by obtain ⟨a, ha, _⟩ := hg; cases ha), (fun a ha => by cases ha), rfl⟩
    | true =>
      refine brT ?_
      repeat (first | with_reducible refine nn ?_ | with_reducible refine let_ ?_ | with_reducible refine brSome ?_ | with_reducible refine brF ?_ | with_reducible refine brT ?_ | ((with_reducible apply ldAt H 0); exact rfl; exact rfl) | ((with_reducible apply ldAt0 H 0); exact rfl; exact rfl) | ((with_reducible apply stAt H 0); exact rfl; exact rfl; intro h H) | ((with_reducible apply stAt0 H 0); exact rfl; exact rfl; intro h H) | ((with_reducible apply allocAt H); intro h b H) | ((with_reducible refine ⟨?_, ?_⟩); first | ((with_reducible apply ldAt H 0); exact rfl; exact rfl; exact rfl) | ((with_reducible apply ldAt0 H 0); exact rfl; exact rfl; exact rfl)))
      refine wIntA (xs := []) (H.nil 1) 0 rfl (by decide) fun s4 h4 H => ?_
      repeat (first | with_reducible refine nn ?_ | with_reducible refine let_ ?_ | with_reducible refine brSome ?_ | with_reducible refine brF ?_ | with_reducible refine brT ?_ | ((with_reducible apply ldAt H 0); exact rfl; exact rfl) | ((with_reducible apply ldAt0 H 0); exact rfl; exact rfl) | ((with_reducible apply ldAt H 1); exact rfl; exact rfl) | ((with_reducible apply ldAt0 H 1); exact rfl; exact rfl) | ((with_reducible apply stAt H 0); exact rfl; exact rfl; intro h H) | ((with_reducible apply stAt0 H 0); exact rfl; exact rfl; intro h H) | ((with_reducible apply stAt H 1); exact rfl; exact rfl; intro h H) | ((with_reducible apply stAt0 H 1); exact rfl; exact rfl; intro h H) | ((with_reducible apply allocAt H); intro h b H) | ((with_reducible refine ⟨?_, ?_⟩); first | ((with_reducible apply ldAt H 0); exact rfl; exact rfl; exact rfl) | ((with_reducible apply ldAt0 H 0); exact rfl; exact rfl; exact rfl) | ((with_reducible apply ldAt H 1); exact rfl; exact rfl; exact rfl) | ((with_reducible apply ldAt0 H 1); exact rfl; exact rfl; exact rfl)))
      refine wIntA (xs := _) H 0 rfl (by simp [be8_length]) fun s5 h5 H => ?_
      rw [List.nil_append] at H
      have hc5 := (H.own 0 rfl).2.1
      refine app1At (E := eBR) (l := []) TWR (H.nil 2) 0 rfl ⟨1, s5, be8 t ++ be8 v⟩ (by decide) (by decide) fun s6 h6 H => ?_
      have H2 := (H.mv 1 1).new (Ext.refl _ _) (r := datW []) (fun a ha => by cases ha) (fun g hg => by obtain ⟨a, ha, _⟩ := hg; cases ha)
      exact ⟨_, At.datS (k := 1) (H2.mv 1 1), (fun x hx => by rw [List.mem_singleton.1 hx]; exact hc5), rfl⟩
end
end Go.Proofs.Ytnognoiaakiepaa
