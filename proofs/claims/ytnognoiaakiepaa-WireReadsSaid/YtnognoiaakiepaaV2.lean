/-
  Layer 5 (wal): contracts of the program's calls, and of the document's.
-/
import Derived.Test.YtnognoiaakiepaaV1
import Derived.Test.YtnognoiaakiepaaF3
import Derived.Test.YtnognoiaakiepaaSW
namespace Go.Proofs.Ytnognoiaakiepaa
open Go

structure BR where
  kind : UInt8
  s : Sl
  xs : List UInt8
def BR.rec_ (a : BR) : WRec := ⟨a.kind, a.xs⟩
def eBR : Enc BR 2 := ⟨fun a => [.int .u8 (a.kind.toNat : Nat), .slice a.s.a a.s.n a.s.c], fun _ => rfl, by decide, fun x u hu => by
  simp only [List.mem_cons, List.not_mem_nil, or_false] at hu
  rcases hu with rfl | rfl <;> rfl⟩
def eRS : Enc WRec 2 := ⟨fun a => [.int .u8 (a.kind.toNat : Nat), .string (strB a.data)], fun _ => rfl, by decide, fun x u hu => by
  simp only [List.mem_cons, List.not_mem_nil, or_false] at hu
  rcases hu with rfl | rfl <;> rfl⟩
theorem TWR : ElemT Try.prog 26 24 2 32 := .of (by kernel_rfl)
theorem TRS : ElemT Try.prog 30 37 2 24 := .of (by kernel_rfl)
def OutW (B : Nat) (h : Heap) (out : Sl) (bs : List BR) : Prop := RdS h 2 out (eBR.fl bs) ∧ out.from_ B ∧ ∀ a ∈ bs, RdS h 1 a.s (cB a.xs) ∧ a.s.from_ B
theorem OutW.ext {B : Nat} {h h' : Heap} {out : Sl} {bs : List BR} (ho : OutW B h out bs) (he : Ext h.size h h') : OutW B h' out bs :=
  ⟨ho.1.ext' he, ho.2.1, fun a ha => ⟨(ho.2.2 a ha).1.ext' he, (ho.2.2 a ha).2⟩⟩
/-- Records that are read, as one thing. -/
def resW (out : Sl) (bs : List BR) : Res := .any (fun g => (0 < (eBR.fl bs).length ∧ out.blk = some g) ∨ ∃ a ∈ bs, 0 < (cB a.xs).length ∧ a.s.blk = some g) (fun h => RdS h 2 out (eBR.fl bs) ∧ ∀ a ∈ bs, RdS h 1 a.s (cB a.xs))
  (fun h h' hs hk ⟨h1, h2⟩ => ⟨Res.keep (.rd out 2 (eBR.fl bs)) hs (fun g hg hl => hk g (.inl hg) hl) h1, fun a ha => Res.keep (.rd a.s 1 (cB a.xs)) hs (fun g hg hl => hk g (.inr ⟨a, ha, hg⟩) hl) (h2 a ha)⟩)
  (fun h ⟨h1, h2⟩ g hg => by
    rcases hg with hg | ⟨a, ha, hg⟩
    · exact Res.lt (.rd out 2 (eBR.fl bs)) h1 g hg
    · exact Res.lt (.rd a.s 1 (cB a.xs)) (h2 a ha) g hg)
section
variable {h0 h : Heap} {F : List Res} {d : Nat} {ty : TypeId} {s : Sl} {b : List UInt8} {n : Nat}
theorem At.newW {L : List Res} {h' : Heap} {out : Sl} {bs : List BR} (H : At h0 h L) (he : Ext h.size h h') (ho : OutW h.size h' out bs) : At h0 h' (resW out bs :: L) :=
  H.new he ⟨ho.1, fun a ha => (ho.2.2 a ha).1⟩ fun g hg => by
    rcases hg with hg | ⟨a, ha, hg⟩
    · exact ho.2.1 g hg.2
    · exact (ho.2.2 a ha).2 g hg.2
theorem wal_Bytes_ok {k : UInt8} {x : Sl} {xs : List UInt8} {R : Sl → Int → Heap → Prop} (hx : RdS h 1 x (cB xs)) (h1 : k = 0 → ∀ h', Ext h.size h h' → R ⟨none, 0, 0⟩ 1 h') (h2 : k ≠ 0 → 4096 ≤ xs.length → ∀ h', Ext h.size h h' → R ⟨none, 0, 0⟩ 4 h')
    (h3 : WRec.ok ⟨k, xs⟩ → ∀ r h', Own h' 1 r (cB (recM ⟨k, xs⟩)) → r.from_ h.size → Ext h.size h h' → R r 0 h') : C_wal_Bytes ((k.toNat : Nat), x, ()) h R := by
  refine A_wal_Bytes ?_
  unfold S_wal_Bytes
  have hn := rd_b hx
  have H := At.start h
  repeat (first | with_reducible refine nn ?_ | with_reducible refine let_ ?_ | with_reducible refine brSome ?_ | with_reducible refine brF ?_ | with_reducible refine brT ?_ | ((with_reducible apply ldAt H 0); exact rfl; exact rfl) | ((with_reducible apply ldAt0 H 0); exact rfl; exact rfl) | ((with_reducible apply stAt H 0); exact rfl; exact rfl; intro h H) | ((with_reducible apply stAt0 H 0); exact rfl; exact rfl; intro h H) | ((with_reducible apply allocAt H); intro h b H) | ((with_reducible refine ⟨?_, ?_⟩); first | ((with_reducible apply ldAt H 0); exact rfl; exact rfl; exact rfl) | ((with_reducible apply ldAt0 H 0); exact rfl; exact rfl; exact rfl)))
  refine br beq_iff_eq (fun hk => h1 (UInt8.toNat_inj.1 (by show k.toNat = 0; have : ((k.toNat : Nat) : Int) = 0 := hk; omega)) _ H.ext) fun hk => ?_
  have hk0 : k ≠ 0 := fun e => hk (by subst e; rfl)
  repeat (first | with_reducible refine nn ?_ | with_reducible refine let_ ?_ | with_reducible refine brSome ?_ | with_reducible refine brF ?_ | with_reducible refine brT ?_ | ((with_reducible apply ldAt H 0); exact rfl; exact rfl) | ((with_reducible apply ldAt0 H 0); exact rfl; exact rfl) | ((with_reducible apply stAt H 0); exact rfl; exact rfl; intro h H) | ((with_reducible apply stAt0 H 0); exact rfl; exact rfl; intro h H) | ((with_reducible apply allocAt H); intro h b H) | ((with_reducible refine ⟨?_, ?_⟩); first | ((with_reducible apply ldAt H 0); exact rfl; exact rfl; exact rfl) | ((with_reducible apply ldAt0 H 0); exact rfl; exact rfl; exact rfl)))
  refine brD (fun hc => h2 hk0 (by have hc' : ((x.n : Nat) : Int) ≥ 4096 := hc; omega) _ H.ext) fun hc => ?_
  have hc : ¬ ((x.n : Nat) : Int) ≥ 4096 := hc
  repeat (first | with_reducible refine nn ?_ | with_reducible refine let_ ?_ | with_reducible refine brSome ?_ | with_reducible refine brF ?_ | with_reducible refine brT ?_ | ((with_reducible apply ldAt H 0); exact rfl; exact rfl) | ((with_reducible apply ldAt0 H 0); exact rfl; exact rfl) | ((with_reducible apply ldAt H 1); exact rfl; exact rfl) | ((with_reducible apply ldAt0 H 1); exact rfl; exact rfl) | ((with_reducible apply stAt H 0); exact rfl; exact rfl; intro h H) | ((with_reducible apply stAt0 H 0); exact rfl; exact rfl; intro h H) | ((with_reducible apply stAt H 1); exact rfl; exact rfl; intro h H) | ((with_reducible apply stAt0 H 1); exact rfl; exact rfl; intro h H) | ((with_reducible apply allocAt H); intro h b H) | ((with_reducible refine ⟨?_, ?_⟩); first | ((with_reducible apply ldAt H 0); exact rfl; exact rfl; exact rfl) | ((with_reducible apply ldAt0 H 0); exact rfl; exact rfl; exact rfl) | ((with_reducible apply ldAt H 1); exact rfl; exact rfl; exact rfl) | ((with_reducible apply ldAt0 H 1); exact rfl; exact rfl; exact rfl)))
  have hb : Blk _ _ _ [.int .u8 (k.toNat : Nat)] := H.get 0 rfl
  have o1 : Own _ 1 ⟨some ⟨_, 0, none⟩, 1, 1⟩ (cB [k]) := Own.full hb (sz := 1) (n := 1) (by rfl) (by decide)
  have H1 := H.as_ 0 rfl (.own ⟨some ⟨_, 0, none⟩, 1, 1⟩ 1 (cB [k])) o1 fun g hg => by simp [Res.fp, Sl.blk] at hg ⊢; omega
  refine appB o1 (H.arg hx) (by simp; omega) fun s2 h2' o2 g2 => ?_
  have H2 := H1.turn 0 rfl (r' := .own s2 1 (cB ([k] ++ xs))) g2.upd o2 g2.stp.grow
  refine frame_Put_ok (x := []) (Own.nil _ _) o2.rd (fun _ g _ e => by simp [Sl.blk] at e) (by decide) (fun hx => by simp at hx; omega) fun _ r3 h3' o3 g3 => ?_
  rw [List.nil_append] at o3
  have e3 : Ext h2'.size h2' h3' := g3.upd.ext (Nat.le_refl _) fun g _ e => by simp [Sl.blk] at e
  refine h3 ⟨hk0, by show xs.length < 4096; omega⟩ r3 h3' o3 ?_ (H2.ext.trans (e3.mono H2.ext.1))
  rcases g3.blk with e | e
  · intro g hg; rw [e] at hg; simp [Sl.blk] at hg
  · intro g hg; exact Nat.le_trans H2.ext.1 (e g hg)
theorem wal_Append_ok {k : UInt8} {x : Sl} {xs : List UInt8} {R : Int → Heap → Prop} (H : At h0 h (diskL d ty s b n ++ F)) (hx : RdS h 1 x (cB xs)) (hl : b.length ≤ 1048576) (h1 : ¬ WRec.ok ⟨k, xs⟩ → ∀ e h', e ≠ 0 → At h0 h' (diskL d ty s b n ++ F) → R e h')
    (h2 : WRec.ok ⟨k, xs⟩ → 1048576 < b.length + (recM ⟨k, xs⟩).length → ∀ h', At h0 h' (diskL d ty s b n ++ F) → R 7 h') (h3 : WRec.ok ⟨k, xs⟩ → b.length + (recM ⟨k, xs⟩).length ≤ 1048576 → ∀ h' s', At h0 h' (diskL d ty s' (b ++ recM ⟨k, xs⟩) n ++ F) → R 0 h') :
    C_wal_Append (some ⟨d, 0, none⟩) ((k.toNat : Nat), x, ()) h R := by
  refine A_wal_Append ?_
  unfold S_wal_Append
  have hH := H
  refine alloc fun h1' b1 e1 z1 => brSome (ldB b1 ((k.toNat : Nat) : Int) rfl (ldF b1 x rfl ?_))
  have H1 := H.ext' e1
  refine wal_Bytes_ok (hx.ext' e1) (fun hk h2' e2 => brY rfl (h1 (fun hh => hh.1 hk) _ _ (by decide) (H1.ext' e2))) (fun _ hlen h2' e2 => brY rfl (h1 (fun hh => by have := hh.2; simp at this; omega) _ _ (by decide) (H1.ext' e2))) fun hok r h2' o2 f2 e2 => brN rfl ?_
  have hrl := recM_length ⟨k, xs⟩
  have hxl := hok.2
  simp only at hrl hxl
  refine disk_Write_ok (H1.ext' e2) o2.rd hl (by omega) (fun hf => h2 hok hf _ (H1.ext' e2)) fun hf h3' s' H3 => h3 hok hf _ s' H3
theorem wal_Read_ok {q : Sl} {l : List UInt8} {R : Sl → Int → Int → Heap → Prop} (hq : RdS h 1 q (cB l)) (hqc : q.n ≤ q.c) (hl : l.length ≤ 1000000000)
    (hR : ∀ out bs h', OutW h.size h' out bs → (∀ a ∈ bs, a.s.n ≤ a.s.c) → bs.map BR.rec_ = (walR l).1 → Ext h.size h h' → R out ((walR l).2.1 : Nat) (walR l).2.2 h') : C_wal_Read q h R := by
  refine A_wal_Read ?_
  unfold S_wal_Read
  refine frame_All_ok hq hqc hl fun out0 bas h1 o1 hb1 e1 => ?_
  have hpay : payM (BAx bas) [] 0 (allM l (l.length + 1) [] 0).2.2 = walR l := by rw [hb1]; exact pay_wal l _ 0 []
  generalize (allM l (l.length + 1) [] 0).2.2 = ee at *
  have hn0 := ownn o1.1
  have hcnt : bas.length ≤ l.length ∧ ∀ a ∈ bas, a.xs.length ≤ 4096 := by
    have key : ∀ (f a : Nat) (ps : List (List UInt8)), ps.length ≤ a → a ≤ l.length → (∀ p ∈ ps, p.length ≤ 4096) → (allM l f ps a).1.length ≤ l.length ∧ ∀ p ∈ (allM l f ps a).1, p.length ≤ 4096 := by
      intro f
      induction f with
      | zero => intro a ps h1 h2 h3; exact ⟨by show ps.length ≤ _; omega, h3⟩
      | succ f ih =>
        intro a ps h1 h2 h3
        rw [allM]
        split
        · split
          · exact ⟨by show ps.length ≤ _; omega, h3⟩
          · rename_i hh hz
            obtain ⟨t1, t2, t3, t4⟩ := takeM_ok (Classical.not_not.1 hz)
            rw [List.length_drop] at t2
            refine ih _ _ (by rw [List.length_append]; simp; omega) (by omega) fun p hp => ?_
            rcases List.mem_append.1 hp with hp | hp
            · exact h3 p hp
            · rw [List.mem_singleton.1 hp]; exact t4
        · exact ⟨by show ps.length ≤ _; omega, h3⟩
    have := key (l.length + 1) 0 [] (by simp) (Nat.zero_le _) (by simp)
    rw [← hb1] at this
    exact ⟨by simpa [BAx] using this.1, fun a ha => this.2 a.xs (List.mem_map_of_mem ha)⟩
  have hle1 := e1.1
  refine loop3 (s1 := .one .sl) (s2 := .one (.int .i64)) (s3 := .one (.int .i64)) (fun (out : Sl) (at_ x : Int) h2 => ∃ (bs : List BR) (k a : Nat), x = k ∧ k ≤ bas.length ∧ at_ = a ∧ a ≤ k * 5000 ∧ bs.length ≤ k ∧ Ext h1.size h1 h2 ∧ Own h2 2 out (eBR.fl bs) ∧ out.from_ h1.size ∧ (∀ a ∈ bs, RdS h1 1 a.s (cB a.xs) ∧ a.s.from_ h.size ∧ a.s.n ≤ a.s.c) ∧ payM ((BAx bas).drop k) (bs.map BR.rec_) a ee = walR l) (fun _ _ (x : Int) _ => (bas.length - x).toNat)
    ⟨[], 0, 0, rfl, Nat.zero_le _, rfl, Nat.zero_le _, Nat.zero_le _, Ext.refl _ _, Own.nil _ _, (fun g hg => by simp [Sl.blk] at hg), (fun a ha => by cases ha), hpay⟩ fun _ (out : Sl) (at_ x : Int) h2 hI => ?_
  obtain ⟨bs, k, a, rfl, hk, rfl, ha, hbk, he, ho, hf, hbs, hp⟩ := hI
  have fin : ∀ h', Ext h1.size h1 h' → Own h' 2 out (eBR.fl bs) → OutW h.size h' out bs := fun h' he' ho' => ⟨ho'.rd, fun g hg => Nat.le_trans hle1 (hf g hg), fun a ha => ⟨(hbs a ha).1.ext' he', (hbs a ha).2.1⟩⟩
  refine brD (fun hc => ?_) fun hc => ?_
  · have hk2 : k < bas.length := by omega
    have hd : (BAx bas).drop k = bas[k].xs :: (BAx bas).drop (k + 1) := by
      have h1 : k < (BAx bas).length := by simp [BAx]; exact hk2
      rw [List.drop_eq_getElem_cons h1]; simp [BAx]
    rw [hd] at hp
    obtain ⟨rk, fk, _⟩ := o1.2.2 _ (List.getElem_mem hk2)
    have rk2 := rk.ext' he
    have hkn := rd_b rk
    have hk4 := hcnt.2 _ (List.getElem_mem hk2)
    refine ixR (o1.1.rd.ext' he) k rfl hk2 fun e hel => ldR0 (o1.1.rd.ext' he) hel hk2 bas[k].s rfl ?_
    cases hxs : bas[k].xs with
    | nil =>
      rw [hxs] at hp hkn
      refine brY (by rw [hkn]; rfl) ?_
      have := hR out bs h2 (fin h2 he ho) (fun a ha => (hbs a ha).2.2) (by rw [← hp]; rfl) (e1.trans (he.mono hle1))
      rw [← hp] at this
      exact this
    | cons kk dd =>
      rw [hxs] at hp hkn rk2 hk4
      simp only [List.length_cons] at hkn hk4
      refine brN (by rw [beq_eq_false_iff_ne]; omega) (ixcB rk2 0 rfl (by simp) ?_)
      simp only [List.getElem_cons_zero]
      unfold payM at hp
      simp only at hp
      refine br beq_iff_eq (fun hz => ?_) fun hz => ?_
      · have hz0 : kk = 0 := UInt8.toNat_inj.1 (by show kk.toNat = 0; omega)
        rw [if_pos hz0] at hp
        have := hR out bs h2 (fin h2 he ho) (fun a ha => (hbs a ha).2.2) (by rw [← hp]) (e1.trans (he.mono hle1))
        rw [← hp] at this
        exact this
      · have hz0 : kk ≠ 0 := fun e => hz (by subst e; rfl)
        rw [if_neg hz0] at hp
        refine ixcB rk2 0 rfl (by simp) ?_
        simp only [List.getElem_cons_zero]
        have rk3 : RdS h1 1 bas[k].s (cB (kk :: dd)) := by rw [← hxs]; exact rk
        have hcap : bas[k].s.n ≤ bas[k].s.c := (o1.2.2 _ (List.getElem_mem hk2)).2.2.2
        refine cutB rk3 1 bas[k].s.n bas[k].s.c (loi rfl) (hi0 _) (.inl ⟨rfl, rfl⟩) (by omega) (by simp; omega) hcap (Nat.le_refl _) fun s3 r3 n3 c3 b3 => ?_
        rw [show ((kk :: dd).drop 1).take (bas[k].s.n - 1) = dd by rw [hkn]; simp] at r3
        refine app1 (E := eBR) TWR ⟨kk, s3, dd⟩ ho (by omega) (by omega) fun s4 h4 o4 g4 => frame_Size_ok (by omega) (by omega) ?_
        rw [w64 (n := (a : Int) + (bas[k].s.n + 8)) (by omega) (by omega), w64 (n := (k : Int) + 1) (by omega) (by omega)]
        refine let_ ⟨⟨bs ++ [⟨kk, s3, dd⟩], k + 1, a + (dd.length + 1 + 8), by omega, by omega, by omega, by omega, by rw [List.length_append]; simp; omega, he.trans (g4.ext hf he.1), o4, g4.from_ hf he.1, fun y hy => ?_, ?_⟩, by omega⟩
        · rcases List.mem_append.1 hy with hy | hy
          · exact hbs y hy
          · rw [List.mem_singleton.1 hy]
            exact ⟨r3, (fun g hg => fk g (by rw [← b3]; exact hg)), by show s3.n ≤ s3.c; omega⟩
        · rw [List.map_append]
          exact hp
  · have hkl : k = bas.length := by omega
    subst hkl
    rw [List.drop_of_length_le (by simp [BAx])] at hp
    have := hR out bs h2 (fin h2 he ho) (fun a ha => (hbs a ha).2.2) (by rw [← hp]; rfl) (e1.trans (he.mono hle1))
    rw [← hp] at this
    exact this
end
end Go.Proofs.Ytnognoiaakiepaa
