/-
  Layer 5 (wal): the document's calls; recovering; what the document fixes.
-/
import Derived.Test.YtnognoiaakiepaaV2
import Derived.Test.YtnognoiaakiepaaSWL
import Derived.Test.YtnognoiaakiepaaH
namespace Go.Proofs.Ytnognoiaakiepaa
open Go

section
variable {h0 h : Heap} {F : List Res} {d : Nat} {ty : TypeId} {s : Sl} {b : List UInt8} {n : Nat}
theorem ref05_Read_ok {q : Sl} {l : List UInt8} {R : Sl → Int → Int → Heap → Prop} (hq : RdS h 1 q (cB l)) (hqc : q.n ≤ q.c) (hl : l.length ≤ 1000000000)
    (hR : ∀ out h', Own h' 2 out (eRS.fl (walR l).1) → out.from_ h.size → Ext h.size h h' → R out ((walR l).2.1 : Nat) (walR l).2.2 h') : C_ref05_Read q h R := by
  refine A_ref05_Read ?_
  unfold S_ref05_Read
  have hn := rd_b hq
  refine loop2 (s1 := .one .sl) (s2 := .one (.int .i64)) (fun (out : Sl) (x : Int) h1 => ∃ (rs : List WRec) (a f : Nat), x = a ∧ a ≤ l.length ∧ rs.length ≤ a ∧ Own h1 2 out (eRS.fl rs) ∧ out.from_ h.size ∧ Ext h.size h h1 ∧ l.length < f + a ∧ walM l f rs a = walR l) (fun _ (x : Int) _ => (l.length - x).toNat)
    ⟨[], 0, l.length + 1, rfl, Nat.zero_le _, Nat.zero_le _, Own.nil _ _, (fun g hg => by simp [Sl.blk] at hg), Ext.refl _ _, by omega, rfl⟩ fun _ (out : Sl) (x : Int) h1 hI => ?_
  obtain ⟨rs, a, f, rfl, ha, hrs, ho, hf, he, hfu, hm⟩ := hI
  have fin : ∀ (e : Int) h', Ext h1.size h1 h' → walR l = (rs, a, e) → R out (a : Int) e h' := fun e h' he' hw => by
    have := hR out h' (by rw [hw]; exact ho.ext' he') hf (he.trans (he'.mono he.1))
    rwa [hw] at this
  refine brD (fun hc => ?_) fun hc => ?_
  · have ha2 : a < l.length := by omega
    rw [walM_step hfu ha2] at hm
    refine cutB (hq.ext' he) a l.length q.c (loi rfl) (.inl ⟨rfl, by omega⟩) (.inl ⟨rfl, rfl⟩) (by omega) (Nat.le_refl _) (by omega) (Nat.le_refl _) fun s1 r1 n1 c1 b1 => ?_
    rw [List.take_of_length_le (by rw [List.length_drop]; omega)] at r1
    refine ref03_Take_ok r1 (by omega) (by rw [List.length_drop]; omega) fun r2 h2 o2 f2 e2 => ?_
    refine brB (fun hne => ?_) fun hz => ?_
    · rw [if_pos (by simpa using hne)] at hm
      exact fin _ h2 e2 hm.symm
    · have hz' : (takeM (l.drop a)).2.2 = 0 := by simpa using hz
      rw [if_neg (by rw [hz']; exact fun x => x rfl)] at hm
      obtain ⟨t1, t2, t3, t4⟩ := takeM_ok hz'
      rw [List.length_drop] at t2
      have hn2 := rd_b o2.rd
      cases hp : (takeM (l.drop a)).1 with
      | nil =>
        rw [hp] at hm hn2
        exact brY (by rw [hn2]; rfl) (fin _ h2 e2 hm.symm)
      | cons kk dd =>
        rw [hp] at hm hn2 o2 t3 t4
        simp only at hm
        simp only [List.length_cons] at hn2 t3 t4
        refine brN (by rw [beq_eq_false_iff_ne]; omega) (ixcB o2.rd 0 rfl (by simp) ?_)
        simp only [List.getElem_cons_zero]
        refine br beq_iff_eq (fun hz => ?_) fun hz => ?_
        · have hz0 : kk = 0 := UInt8.toNat_inj.1 (by show kk.toNat = 0; omega)
          rw [if_pos hz0] at hm
          exact fin _ h2 e2 hm.symm
        · have hz0 : kk ≠ 0 := fun e => hz (by subst e; rfl)
          rw [if_neg hz0] at hm
          refine ixcB o2.rd 0 rfl (by simp) ?_
          simp only [List.getElem_cons_zero]
          refine cutB o2.rd 1 r2.n r2.c (loi rfl) (hi0 _) (.inl ⟨rfl, rfl⟩) (by omega) (by simp; omega) o2.2.1 (Nat.le_refl _) fun s3 r3 n3 c3 b3 => toS BT r3 ?_
          rw [show ((kk :: dd).drop 1).take (r2.n - 1) = dd by rw [hn2]; simp]
          refine app1 (E := eRS) TRS ⟨kk, dd⟩ (ho.ext' e2) (by omega) (by omega) fun s4 h4 o4 g4 => let_ ?_
          have hle := he.1
          rw [w64 (by omega) (by omega)]
          refine ⟨⟨rs ++ [⟨kk, dd⟩], a + (takeM (l.drop a)).2.1, f - 1, by omega, by omega, by rw [List.length_append]; simp; omega, o4, g4.from_ hf (Nat.le_trans hle e2.1), (he.trans (e2.mono hle)).trans (g4.ext hf (Nat.le_trans hle e2.1)), by omega, hm⟩, by omega⟩
  · have : a = l.length := by omega
    rw [walM_done (by omega)] at hm
    exact fin _ h1 (Ext.refl _ _) hm.symm
theorem ref05_Right_ok {k : UInt8} {xs : List UInt8} {R : Bool → Heap → Prop} (hR : ∀ h', Ext h.size h h' → ∀ v : Bool, (v = true ↔ WRec.ok ⟨k, xs⟩) → R v h') : C_ref05_Right ((k.toNat : Nat), strB xs, ()) h R := by
  refine A_ref05_Right ?_
  unfold S_ref05_Right
  refine alloc fun h1 b1 e1 z1 => ldB b1 ((k.toNat : Nat) : Int) rfl (brD (fun hk => ldF b1 (strB xs) rfl ?_) fun hk => ?_)
  · rw [strB_size]
    refine hR h1 e1 _ ?_
    unfold WRec.ok
    simp only [decide_eq_true_eq]
    exact ⟨fun hx => ⟨fun e => by subst e; exact absurd hk (by decide), by omega⟩, fun hx => by have := hx.2; omega⟩
  · refine hR h1 e1 false ⟨(fun x => by cases x), fun hx => ?_⟩
    exact absurd (UInt8.toNat_inj.1 (show k.toNat = (0 : UInt8).toNat by have : ¬ ((k.toNat : Nat) : Int) > 0 := hk; show k.toNat = 0; omega)) hx.1
theorem ref05_Bytes_ok {k : UInt8} {xs : List UInt8} {R : Sl → Heap → Prop} (hx : xs.length < 4096) (hR : ∀ r h', Own h' 1 r (cB (recM ⟨k, xs⟩)) → r.from_ h.size → Ext h.size h h' → R r h') : C_ref05_Bytes ((k.toNat : Nat), strB xs, ()) h R := by
  refine A_ref05_Bytes ?_
  unfold S_ref05_Bytes
  refine alloc fun h1 b1 e1 z1 => ldB b1 ((k.toNat : Nat) : Int) rfl ?_
  refine alloc (cs := cB [k]) fun h2 b2 e2 z2 => ldF (b1.upd (e2.upd fun _ => False) fun x => x) (strB xs) rfl ?_
  have o2 : Own h2 1 ⟨some ⟨h1.size, 0, none⟩, 1, 1⟩ (cB [k]) := Own.full b2 (sz := 1) (n := 1) (by rfl) (by decide)
  refine appS (s := ⟨some ⟨h1.size, 0, none⟩, 1, 1⟩) o2 (by simp; omega) fun s3 h3 o3 g3 => ?_
  have E3 : Ext h.size h h3 := (e1.trans (e2.mono e1.1)).trans (g3.upd.ext (by omega) fun g hg e => by simp [Sl.blk] at e; omega)
  refine ref03_Put_ok o3.rd (by simp; omega) fun r4 h4 o4 f4 e4 => ?_
  exact hR r4 h4 o4 (fun g hg => Nat.le_trans E3.1 (f4 g hg)) (E3.trans (e4.mono E3.1))
theorem wal_Recover_nil {R : Sl → Int → Heap → Prop} (hR : R ⟨none, 0, 0⟩ 1 h) : C_wal_Recover none h R := A_wal_Recover hR
theorem wal_Recover_ok {R : Sl → Int → Heap → Prop} (H : At h0 h (diskL d ty s b n ++ F)) (hl : b.length ≤ 1048576) (h1 : (walR b).2.1 < n → ∀ h', At h0 h' (diskL d ty s b n ++ F) → R ⟨none, 0, 0⟩ 3 h')
    (h2 : n ≤ (walR b).2.1 → ∀ h' out bs s', bs.map BR.rec_ = (walR b).1 → (∀ a ∈ bs, a.s.n ≤ a.s.c) → At h0 h' (diskL d ty s' (b.take (walR b).2.1) (walR b).2.1 ++ (resW out bs :: F)) → R out 0 h') : C_wal_Recover (some ⟨d, 0, none⟩) h R := by
  refine A_wal_Recover ?_
  unfold S_wal_Recover
  refine brSome (disk_Bytes_ok H hl fun r h1' o1 f1 e1 => ?_)
  have H1 := H.ext' e1
  refine wal_Read_ok o1.rd o1.2.1 (by omega) fun out bs h2' w2 hcp hbs e2 => ?_
  have hend := (walM_le b (b.length + 1) [] 0 (Nat.zero_le _)).2.1
  have H2 := (H1.newW e2 w2).mv 1 2
  refine disk_Synced_ok (F := resW out bs :: F) H2 (brD (fun hlt => ?_) fun hge => ?_)
  · exact h1 (by omega) h2' (H1.ext' e2)
  · refine disk_Cut_ok (F := resW out bs :: F) H2 (fun hb => by rcases hb with hb | hb; omega; exact absurd hb (by show ¬ (b.length : Int) < ((walR b).2.1 : Nat); unfold walR; omega)) fun k hk hkb h3 s3 H3 => ?_
    have hk' : k = (walR b).2.1 := by omega
    subst hk'
    exact h2 (by omega) h3 out bs s3 hbs hcp H3
theorem law05_same_ok {a c : Sl} {bs : List BR} {rs : List WRec} {R : Bool → Heap → Prop} (ha : RdS h 2 a (eBR.fl bs) ∧ ∀ x ∈ bs, RdS h 1 x.s (cB x.xs)) (hc : RdS h 2 c (eRS.fl rs)) (hl : bs.length ≤ 1000000000) (hR : ∀ v : Bool, (v = true ↔ bs.map BR.rec_ = rs) → R v h) : C_law05_same a c h R := by
  refine A_law05_same ?_
  unfold S_law05_same
  have hna := rdn ha.1
  have hnc := rdn hc
  refine brB (fun hne => ?_) fun heq => ?_
  · exact hR false ⟨(fun x => by cases x), fun e => by have := congrArg List.length e; rw [List.length_map] at this; rw [bne_iff_ne] at hne; omega⟩
  have hlen : bs.length = rs.length := by rw [bne_eq_false_iff_eq] at heq; omega
  refine loop1 (s1 := .one (.int .i64)) (fun (i : Int) h1 => h1 = h ∧ ∃ k : Nat, i = k ∧ k ≤ bs.length ∧ (bs.map BR.rec_).take k = rs.take k) (fun (i : Int) _ => (bs.length - i).toNat) ⟨rfl, 0, rfl, Nat.zero_le _, rfl⟩ fun _ (i : Int) h1 hI => ?_
  obtain ⟨rfl, k, rfl, hk, hp⟩ := hI
  have bad : k < bs.length → ∀ hk1 : k < bs.length, ∀ hk2 : k < rs.length, bs[k].rec_ ≠ rs[k] → R false h1 := fun _ hk1 hk2 hne => hR false ⟨(fun x => by cases x), fun e => absurd (show bs[k].rec_ = rs[k] by
    have := congrArg (·[k]?) e
    simpa [List.getElem?_eq_getElem hk1, List.getElem?_eq_getElem hk2] using this) hne⟩
  refine brD (fun hcc => ?_) fun hcc => ?_
  · have hk1 : k < bs.length := by omega
    have hk2 : k < rs.length := by omega
    refine ixR ha.1 k rfl hk1 fun e he => ldR0 ha.1 he hk1 ((bs[k].kind.toNat : Nat) : Int) rfl ?_
    refine ixR hc k rfl hk2 fun e2 he2 => ldR0 hc he2 hk2 ((rs[k].kind.toNat : Nat) : Int) rfl ?_
    refine brB (fun hne => bad hk1 hk1 hk2 fun e => by rw [← e] at hne; simp [BR.rec_] at hne) fun heq => ?_
    have e1 : bs[k].kind = rs[k].kind := UInt8.toNat_inj.1 (by have : ((bs[k].kind.toNat : Nat) : Int) = (rs[k].kind.toNat : Nat) := by simpa using heq
                                                               omega)
    refine ixR ha.1 k rfl hk1 fun e3 he3 => ldR ha.1 he3 hk1 bs[k].s rfl (toS BT (ha.2 _ (List.getElem_mem hk1)) ?_)
    refine ixR hc k rfl hk2 fun e4 he4 => ldR hc he4 hk2 (strB rs[k].data) rfl ?_
    rw [strB_toList, strB_toList]
    refine brB (fun hne => bad hk1 hk1 hk2 fun e => by rw [← e] at hne; simp [BR.rec_] at hne) fun heq => ?_
    have e2 : bs[k].xs = rs[k].data := by simpa using heq
    rw [w64 (by omega) (by omega)]
    refine ⟨⟨rfl, k + 1, by omega, by omega, ?_⟩, by omega⟩
    have h1 : k < (bs.map BR.rec_).length := by rw [List.length_map]; exact hk1
    rw [take_snoc _ k h1, take_snoc _ k hk2, hp]
    congr 1
    simp only [List.getElem_map, BR.rec_, e1, e2]
  · have : k = bs.length := by omega
    subst this
    rw [List.take_of_length_le (by simp), List.take_of_length_le (by omega)] at hp
    exact hR true ⟨fun _ => hp, fun _ => rfl⟩
end
/-! ## fixed -/
def fx5 : List UInt8 := recM ⟨1, [120]⟩ ++ (recM ⟨2, []⟩).take 5
theorem fx5_wal : walR fx5 = ([⟨1, [120]⟩], 10, eForm) := by kernel_rfl
theorem wal_Append_nil {h : Heap} {k : UInt8} {x : Sl} {R : Int → Heap → Prop} (hR : ∀ h', Ext h.size h h' → R 1 h') : C_wal_Append none ((k.toNat : Nat), x, ()) h R := by
  refine A_wal_Append ?_
  unfold S_wal_Append
  exact alloc fun h1 b1 e1 z1 => brY rfl (hR h1 e1)
set_option maxRecDepth 100000 in
theorem law05_fixed_ok {h : Heap} {R : Bool → Heap → Prop} (hR : ∀ h', Ext h.size h h' → R true h') : C_law05_fixed h R := by
  refine A_law05_fixed ?_
  unfold S_law05_fixed
  refine disk_New_ok (At.start h) fun h1 d ty H => ?_
  refine alloc (cs := cB [120]) fun h2 b2 e2 z2 => frz BT b2 fun h3 b3 u3 z3 => ?_
  have e3 : Ext h1.size h1 h3 := e2.trans (u3.ext1 (Nat.le_refl _) (by omega))
  have H := H.ext' e3
  have r3 : RdS h3 1 ⟨some ⟨h1.size, 0, none⟩, 1, 1⟩ (cB [120]) := (Own.full b3 (sz := 1) (n := 1) (by rfl) (by decide)).rd
  have ok1 : WRec.ok ⟨1, [120]⟩ := ⟨by decide, by decide⟩
  have ok2 : WRec.ok ⟨2, []⟩ := ⟨by decide, by decide⟩
  refine wal_Append_ok (k := 1) H r3 (by decide) (fun hn => absurd ok1 hn) (fun _ hf => by simp [recM_length] at hf) fun _ _ h4 s4 H => ?_
  refine disk_Sync_ok H fun h5 H => ?_
  refine wal_Append_ok (k := 2) (xs := []) H (RdS.nil _ _ _ _) (by simp [recM_length]) (fun hn => absurd ok2 hn) (fun _ hf => by simp [recM_length] at hf) fun _ _ h6 s6 H => ?_
  refine disk_Crash_ok (c := 0) H rfl (by simp) (by simp [recM_length]) fun h7 s7 H => ?_
  have ec : crashL ([] ++ recM ⟨1, [120]⟩ ++ recM ⟨2, []⟩) ([] ++ recM ⟨1, [120]⟩).length 5 (-1) 0 = fx5 := by kernel_rfl
  rw [ec] at H
  have en : ([] ++ recM ⟨1, [120]⟩).length = 10 := by simp [recM_length]
  rw [en] at H
  refine wal_Recover_ok H (by decide) (fun hlt => by rw [fx5_wal] at hlt; exact absurd hlt (by decide)) fun _ h8 out bs s8 hbs _ H => ?_
  rw [fx5_wal] at hbs H
  obtain ⟨a, rfl, ha⟩ : ∃ a, bs = [a] ∧ a.rec_ = ⟨1, [120]⟩ := by
    have h1 : bs.length = 1 := by have := congrArg List.length hbs; simpa using this
    obtain ⟨a, rfl⟩ := List.length_eq_one_iff.1 h1
    exact ⟨a, rfl, by simpa using hbs⟩
  have w : RdS h8 2 out (eBR.fl [a]) ∧ ∀ x ∈ [a], RdS h8 1 x.s (cB x.xs) := H.get 2 rfl
  have hax : a.xs = [120] := congrArg WRec.data ha
  have hak : a.kind = 1 := congrArg WRec.kind ha
  have hon := rdn w.1
  refine wal_Bytes_ok (k := 0) (xs := []) (RdS.nil _ _ _ _) (fun _ h9 e9 => ?_) (fun hk => absurd rfl hk) fun hok => absurd rfl hok.1
  have w9 : RdS h9 2 out (eBR.fl [a]) := w.1.ext' e9
  have w9' : RdS h9 1 a.s (cB [120]) := by rw [← hax]; exact (w.2 a (by simp)).ext' e9
  have H := H.ext' e9
  refine wal_Recover_nil (brY rfl (brY rfl (brY (by rw [hon]; rfl) ?_)))
  refine ixR w9 0 rfl (by simp) fun e he => ldR0 w9 he (by simp) ((a.kind.toNat : Nat) : Int) rfl (brY (by rw [hak]; rfl) ?_)
  refine ixR w9 0 rfl (by simp) fun e he => ldR w9 he (by simp) a.s rfl (toS BT w9' (brY (by rw [strB_toList, show (⟨#[120]⟩ : ByteArray).toList = [120] from strB_toList [120]]; rfl) ?_))
  have el : (fx5.take 10).length = 10 := by rw [List.length_take]; rfl
  refine disk_Len_ok H (brY (by rw [el]; rfl) (disk_Synced_ok H (brY rfl (brY rfl (brY rfl ?_)))))
  exact wal_Append_nil (k := 0) fun h10 e10 => hR h10 (H.ext.trans (e10.mono H.ext.1))
end Go.Proofs.Ytnognoiaakiepaa
