/-
  Layer 6 (hard): the law HardCrash over the heap alone.
-/
import Derived.Test.YtnognoiaakiepaaHe
namespace Go.Proofs.Ytnognoiaakiepaa
open Go

def savs (bs : List SvA) : List WRec := bs.flatMap fun a => savR a.sav
theorem savs_app (a b : List SvA) : savs (a ++ b) = savs a ++ savs b := List.flatMap_append ..
theorem savs_one (a : SvA) : savs [a] = savR a.sav := by simp [savs]
theorem savs_snoc (bs : List SvA) (k : Nat) (hk : k < bs.length) : savs (bs.take (k + 1)) = savs (bs.take k) ++ savR bs[k].sav := by
  rw [take_snoc bs k hk, savs_app, savs_one]
theorem rds_cutE {α : Type} {sz : Nat} {E : Enc α sz} {h : Heap} {s : Sl} {l : List α} (hr : RdS h sz s (E.fl l)) (u m : Nat) (hu : u ≤ s.n) (h2 : u ≤ m) : RdS h sz (cutSl s sz 0 u m) (E.fl (l.take u)) := by
  have := rds_cut hr 0 u m (Nat.zero_le _) hu h2
  rwa [Nat.zero_mul, List.drop_zero, Nat.sub_zero, E.fl_take] at this
theorem playF_len : ∀ (rs : List WRec) (st st' : Stt), playF st rs = some st' → st'.es.length ≤ st.es.length + rs.length
  | [], st, st', h => by
    injection h with h; subst h; exact Nat.le_refl _
  | r :: rs, st, st', h => by
    rw [playF] at h
    cases hs : stepM st r with
    | none => rw [hs] at h; cases h
    | some s1 =>
      rw [hs] at h
      have h1 := stepM_len hs
      have h2 := playF_len rs s1 st' h
      rw [List.length_cons]
      omega
theorem playM_len {rs : List WRec} {st : Stt} (h : playM rs = some st) : st.es.length ≤ rs.length := by
  unfold playM at h
  cases hp : playF st0 rs with
  | none => rw [hp] at h; cases h
  | some s =>
    rw [hp] at h
    simp only at h
    split at h
    · injection h with h
      subst h
      have := playF_len rs st0 s hp
      simpa [st0] using this
    · cases h
set_option maxRecDepth 100000 in
set_option maxHeartbeats 1000000 in
theorem law06_HardCrash_ok {synced tail : Sl} {keep at_ by_ : Int} {hB : Heap} {b1 b2 : List SvA} (w0 : ArgV hB synced b1) (w1 : ArgV hB tail b2) (w2 : -9223372036854775808 ≤ keep ∧ keep ≤ 9223372036854775807) (w3 : -9223372036854775808 ≤ at_ ∧ at_ ≤ 9223372036854775807) (w4 : 0 ≤ by_ ∧ by_ ≤ 255) :
    C_law06_HardCrash synced tail keep at_ by_ hB fun r h' => r = true ∧ Ext hB.size hB h' := by
  refine A_law06_HardCrash ?_
  unfold S_law06_HardCrash
  obtain ⟨A1, hb1⟩ := w0
  obtain ⟨A2, hb2⟩ := w1
  have hn1 := rdn A1
  have hn2 := rdn A2
  obtain ⟨y, rfl⟩ : ∃ n : UInt8, by_ = n.toNat := ⟨UInt8.ofNat by_.toNat, by simp; omega⟩
  refine law06_fixed_ok fun h0 e0 => brN rfl (brD (fun hc1 => ⟨rfl, e0⟩) fun hc1 => brD (fun hc2 => ⟨rfl, e0⟩) fun hc2 => ?_)
  refine disk_New_ok (At.of_ext e0) fun h1 d ty H => ?_
  refine allocAt H fun h2 bb H => ?_
  have hbb : Blk h2 bb _ [] := H.get 0 rfl
  have ob : Own h2 5 ⟨some ⟨bb, 0, none⟩, 0, 0⟩ (eSV.fl []) := Own.full hbb (sz := 5) (n := 0) (by rfl) (by decide)
  have H := H.as_ 0 rfl (.own ⟨some ⟨bb, 0, none⟩, 0, 0⟩ 5 (eSV.fl [])) ob fun g hg => by simp [Res.fp, Sl.blk] at hg ⊢; omega
  refine appAt (E := eSV) (xs := []) TSV H 0 rfl (H.arg A1) (by simp; omega) (by simp; omega) fun s3 h3 H => ?_
  refine appAt (E := eSV) (xs := [] ++ b1) TSV H 0 rfl (H.arg A2) (by simp; omega) (by simp; omega) fun s4 h4 H => ?_
  rw [List.nil_append] at H
  have hbs : ∀ a ∈ b1 ++ b2, RdS hB 2 a.s (eEN.fl a.es) ∧ a.es.length ≤ 140737488351232 := fun a ha => (List.mem_append.1 ha).elim (hb1 a) (hb2 a)
  have hln : (b1 ++ b2).length = b1.length + b2.length := List.length_append
  generalize hbse : b1 ++ b2 = bs at *
  have H : At hB h4 (diskL d ty ⟨none, 0, 0⟩ [] 0 ++ [.own s4 5 (eSV.fl bs), .own ⟨none, 0, 0⟩ 2 (eRS.fl [])]) := ((H.mv 1 2).nil 2).perm (by
    show List.Perm [_, _, _, _] [_, _, _, _]
    exact (List.Perm.swap ..).trans (List.Perm.cons _ ((List.Perm.swap ..).trans (List.Perm.cons _ (List.Perm.swap ..)))))
  have hs4 := H.n (E := eSV) 2 rfl
  have hfst : bs.take b1.length = b1 := by rw [← hbse]; exact List.take_left
  refine loop3 (s1 := .one .sl) (s2 := .one (.int .i64)) (s3 := .one (.int .i64)) (fun (all : Sl) (nn x : Int) h5 => ∃ (k : Nat) (s : Sl), x = k ∧ k ≤ bs.length ∧ nn = (savs (bs.take (min k b1.length))).length ∧ At hB h5 (diskL d ty s (recsM (savs (bs.take k))) (if k ≤ b1.length then 0 else (recsM (savs b1)).length) ++ [.own s4 5 (eSV.fl bs), .own all 2 (eRS.fl (savs (bs.take k)))]) ∧ (∀ r ∈ savs (bs.take k), r.ok ∧ r.data.length ≤ 618) ∧ (savs (bs.take k)).length ≤ 13 * k) (fun _ _ (x : Int) _ => (bs.length - x).toNat)
    ⟨0, _, rfl, Nat.zero_le _, rfl, by rw [if_pos (Nat.zero_le _)]; exact H, (fun r hr => by cases hr), Nat.le_refl _⟩ fun _ (all : Sl) (nn x : Int) h5 hI => ?_
  obtain ⟨k, s, rfl, hk, rfl, H, hok, hcnt⟩ := hI
  have hle := recsM_le' 618 _ fun r hr => (hok r hr).2
  refine brD (fun hc => ?_) fun hc => ?_
  · have hk2 : k < bs.length := by omega
    obtain ⟨ra, hal⟩ := hbs _ (List.getElem_mem hk2)
    have hcm : (savs (bs.take k)).length * (618 + 9) ≤ 260 * 627 := Nat.mul_le_mul (by omega) (by decide)
    refine ixAt (E := eSV) H 2 rfl k rfl hk2 fun e he => ?_
    refine ldEl0 (E := eSV) H 2 rfl he hk2 _ rfl (ldEl (E := eSV) H 2 rfl he hk2 _ rfl (ldEl (E := eSV) H 2 rfl he hk2 _ rfl (ldEl (E := eSV) H 2 rfl he hk2 _ rfl (ldEl (E := eSV) H 2 rfl he hk2 bs[k].s rfl ?_))))
    repeat (first | with_reducible refine nn ?_ | with_reducible refine let_ ?_ | with_reducible refine brSome ?_ | with_reducible refine brF ?_ | with_reducible refine brT ?_ | ((with_reducible apply ldAt H 0); exact rfl; exact rfl) | ((with_reducible apply ldAt0 H 0); exact rfl; exact rfl) | ((with_reducible apply stAt H 0); exact rfl; exact rfl; intro h H) | ((with_reducible apply stAt0 H 0); exact rfl; exact rfl; intro h H) | ((with_reducible apply allocAt H); intro h b H) | ((with_reducible refine ⟨?_, ?_⟩); first | ((with_reducible apply ldAt H 0); exact rfl; exact rfl; exact rfl) | ((with_reducible apply ldAt0 H 0); exact rfl; exact rfl; exact rfl)))
    rename Nat => p1
    refine law06_few_ok (H.arg ra) (by omega) fun w h6 e6 hw => ?_
    have H := H.ext' e6
    cases w with
    | false => exact brY rfl ⟨rfl, H.ext⟩
    | true =>
    obtain ⟨h12, h600⟩ := hw rfl
    refine brN rfl ?_
    have hsok := savR_ok (s := bs[k].sav) h600
    have hsl := savR_len bs[k].sav
    have hsl' : (savR bs[k].sav).length ≤ 13 := by have : bs[k].sav.es.length = bs[k].es.length := rfl; omega
    have hsz := recsM_le' 618 _ fun r hr => (hsok r hr).2
    have hcm2 : (savR bs[k].sav).length * (618 + 9) ≤ 13 * 627 := Nat.mul_le_mul (by omega) (by decide)
    have et := savs_snoc bs k hk2
    have hrw : savR ⟨bs[k].hard, bs[k].term, bs[k].vote, bs[k].frm, bs[k].es⟩ = savR bs[k].sav := rfl
    generalize savR bs[k].sav = rsk at *
    -- the disk behind the syncing, if there is one
    refine join0 (fun h7 => ∃ t1, At hB h7 (.blk p1 t1 [.bool bs[k].hard, .int .i64 bs[k].term, .int .i64 bs[k].vote, .int .i64 bs[k].frm, .slice bs[k].s.a bs[k].s.n bs[k].s.c] :: (diskL d ty s (recsM (savs (bs.take k))) (if k + 1 ≤ b1.length then 0 else (recsM (savs b1)).length) ++ [.own s4 5 (eSV.fl bs), .own all 2 (eRS.fl (savs (bs.take k)))]))) (fun _ h7 hJ => ?_) ?_
    · obtain ⟨t1, H⟩ := hJ
      refine ldAt0 H 0 rfl bs[k].hard rfl (ldAt H 0 rfl bs[k].term rfl (ldAt H 0 rfl bs[k].vote rfl (ldAt H 0 rfl bs[k].frm rfl (ldAt H 0 rfl bs[k].s rfl ?_))))
      refine ref06_Records_ok (H.arg ra) (by omega) (fun e he => by have := h600 e he; omega) fun r3 h8 o8 f8 e8 => ?_
      rw [hrw] at o8
      have H := H.new e8 (r := .own r3 2 (eRS.fl rsk)) o8 f8
      have hrn := H.n (E := eRS) 0 rfl
      refine loop2 (s1 := .one .sl) (s2 := .one (.int .i64)) (fun (all1 : Sl) (x : Int) h9 => ∃ j : Nat, x = j ∧ j ≤ rsk.length ∧ At hB h9 (.own r3 2 (eRS.fl rsk) :: .blk p1 t1 [.bool bs[k].hard, .int .i64 bs[k].term, .int .i64 bs[k].vote, .int .i64 bs[k].frm, .slice bs[k].s.a bs[k].s.n bs[k].s.c] :: (diskL d ty s (recsM (savs (bs.take k))) (if k + 1 ≤ b1.length then 0 else (recsM (savs b1)).length) ++ [.own s4 5 (eSV.fl bs), .own all1 2 (eRS.fl (savs (bs.take k) ++ rsk.take j))]))) (fun _ (x : Int) _ => (rsk.length - x).toNat)
        ⟨0, rfl, Nat.zero_le _, by rw [List.take_zero, List.append_nil]; exact H⟩ fun _ (all1 : Sl) (x : Int) h9 hI => ?_
      obtain ⟨j, rfl, hj, H⟩ := hI
      refine brD (fun hc3 => ?_) fun hc3 => ?_
      · have hj2 : j < rsk.length := by omega
        refine ixAt (E := eRS) H 0 rfl j rfl hj2 fun e he => ?_
        refine ldEl0 (E := eRS) H 0 rfl he hj2 ((rsk[j].kind.toNat : Nat) : Int) rfl (ldEl (E := eRS) H 0 rfl he hj2 (strB rsk[j].data) rfl ?_)
        repeat (first | with_reducible refine nn ?_ | with_reducible refine let_ ?_ | with_reducible refine brSome ?_ | with_reducible refine brF ?_ | with_reducible refine brT ?_ | ((with_reducible apply ldAt H 0); exact rfl; exact rfl) | ((with_reducible apply ldAt0 H 0); exact rfl; exact rfl) | ((with_reducible apply stAt H 0); exact rfl; exact rfl; intro h H) | ((with_reducible apply stAt0 H 0); exact rfl; exact rfl; intro h H) | ((with_reducible apply allocAt H); intro h b H) | ((with_reducible refine ⟨?_, ?_⟩); first | ((with_reducible apply ldAt H 0); exact rfl; exact rfl; exact rfl) | ((with_reducible apply ldAt0 H 0); exact rfl; exact rfl; exact rfl)))
        refine ref05_Right_ok fun h10 e10 v hv => ?_
        have H := H.ext' e10
        obtain rfl : v = true := hv.2 (hsok _ (List.getElem_mem hj2)).1
        refine brN rfl (ldAt0 H 0 rfl ((rsk[j].kind.toNat : Nat) : Int) rfl (ldAt H 0 rfl (strB rsk[j].data) rfl ?_))
        refine app1At (E := eRS) TRS H 6 rfl rsk[j] (by rw [List.length_append, List.length_take]; omega) (by rw [List.length_append, List.length_take]; omega) fun s11 h11 H => ?_
        rw [w64 (by omega) (by omega)]
        refine ⟨⟨j + 1, by omega, by omega, ?_⟩, by omega⟩
        rw [take_snoc _ j hj2, ← List.append_assoc]
        exact H.tail
      · have hjl : j = rsk.length := by omega
        subst hjl
        rw [List.take_length, ← et] at H
        have halln := H.n (E := eRS) 5 rfl
        refine join1 (s1 := .one (.int .i64)) (fun (n1 : Int) h12 => h12 = h9 ∧ n1 = (savs (bs.take (min (k + 1) b1.length))).length) (fun _ (n1 : Int) h12 hJ => ?_) ?_
        · obtain ⟨rfl, rfl⟩ := hJ
          refine ldAt0 H 1 rfl bs[k].hard rfl (ldAt H 1 rfl bs[k].term rfl (ldAt H 1 rfl bs[k].vote rfl (ldAt H 1 rfl bs[k].frm rfl (ldAt H 1 rfl bs[k].s rfl ?_))))
          refine hard_Write_ok (es := bs[k].es) (F := [_, _, _, _]) (H.mv 2 2) (H.arg ra) (by omega) (fun r hr => (hsok r (by rw [hrw] at hr; exact hr)).1) (by rw [hrw]; omega) fun h13 s13 H => brN rfl ?_
          rw [hrw, ← recsM_app, ← et] at H
          rw [w64 (by omega) (by omega)]
          refine ⟨⟨k + 1, s13, by omega, by omega, rfl, (H.del 2).del 2, fun r hr => ?_, ?_⟩, by omega⟩
          · rw [et] at hr
            exact (List.mem_append.1 hr).elim (hok r) (hsok r)
          · rw [et, List.length_append]; omega
        · refine brD (fun hlt => let_ ⟨rfl, ?_⟩) fun hge => ⟨rfl, ?_⟩
          · rw [halln, show min (k + 1) b1.length = k + 1 by omega]
          · rw [show min (k + 1) b1.length = b1.length by omega, show min k b1.length = b1.length by omega]
    · refine br beq_iff_eq (fun hks => ?_) fun hks => ?_
      · have hkb : k = b1.length := by omega
        refine disk_Sync_ok (F := [_, _, _]) (H.mv 1 2) fun h7 H => ?_
        rw [if_neg (by omega)]
        have e2 : (recsM (savs (bs.take k))).length = (recsM (savs b1)).length := by rw [hkb, hfst]
        rw [e2] at H
        exact ⟨_, H.mv 2 1⟩
      · have e2 : (if k + 1 ≤ b1.length then 0 else (recsM (savs b1)).length) = (if k ≤ b1.length then 0 else (recsM (savs b1)).length) := by
          by_cases h1 : k + 1 ≤ b1.length
          · rw [if_pos h1, if_pos (by omega)]
          · rw [if_neg h1, if_neg (by omega)]
        rw [e2]
        exact ⟨_, H⟩
  · have hkl : k = bs.length := by omega
    subst hkl
    rw [List.take_length] at H hok hle hcnt
    rw [show min bs.length b1.length = b1.length by omega, hfst]
    have hrs : savs bs = savs b1 ++ savs b2 := by rw [← hbse, savs_app]
    have hcm : (savs bs).length * (618 + 9) ≤ 260 * 627 := Nat.mul_le_mul (by omega) (by decide)
    rw [hrs] at H hok hle hcm hcnt
    generalize hr1 : savs b1 = r1 at *
    generalize hr2 : savs b2 = r2 at *
    have hr12 : r1.length + r2.length ≤ 260 := by rw [← List.length_append]; omega
    have ok1 : ∀ r ∈ r1, r.ok := fun r hr => (hok r (List.mem_append_left _ hr)).1
    have ok2 : ∀ r ∈ r2, r.ok := fun r hr => (hok r (List.mem_append_right _ hr)).1
    refine join0 (fun h7 => At hB h7 (diskL d ty s (recsM (r1 ++ r2)) (recsM r1).length ++ [.own s4 5 (eSV.fl bs), .own all 2 (eRS.fl (r1 ++ r2))])) (fun _ h7 H => ?_) ?_
    · have hD : recsM (r1 ++ r2) = recsM r1 ++ recsM r2 := recsM_app ..
      refine disk_Crash_ok H rfl (by rw [hD, List.length_append]; omega) (by omega) fun h8 s8 H => ?_
      obtain ⟨j, m, ee, hj, hw, hm, hcl⟩ := crash_wal ok1 ok2 keep at_ y
      generalize crashL (recsM (r1 ++ r2)) (recsM r1).length keep at_ y = D at *
      have hrt : (r1 ++ r2).take (r1.length + j) = r1 ++ r2.take j := List.take_length_add_append ..
      refine hard_Recover_ok2 (F := [_, _]) H (by omega) (by rw [hw]; exact hm) fun tg vg sg eg code h9 hcase hH => ?_
      obtain ⟨s9, H⟩ := hH
      rw [hw] at hcase
      simp only at hcase
      rw [← hrt] at hcase
      repeat (first | with_reducible refine nn ?_ | with_reducible refine let_ ?_ | with_reducible refine brSome ?_ | with_reducible refine brF ?_ | with_reducible refine brT ?_ | ((with_reducible apply ldAt H 0); exact rfl; exact rfl) | ((with_reducible apply ldAt0 H 0); exact rfl; exact rfl) | ((with_reducible apply ldAt H 1); exact rfl; exact rfl) | ((with_reducible apply ldAt0 H 1); exact rfl; exact rfl) | ((with_reducible apply stAt H 0); exact rfl; exact rfl; intro h H) | ((with_reducible apply stAt0 H 0); exact rfl; exact rfl; intro h H) | ((with_reducible apply stAt H 1); exact rfl; exact rfl; intro h H) | ((with_reducible apply stAt0 H 1); exact rfl; exact rfl; intro h H) | ((with_reducible apply allocAt H); intro h b H) | ((with_reducible refine ⟨?_, ?_⟩); first | ((with_reducible apply ldAt H 0); exact rfl; exact rfl; exact rfl) | ((with_reducible apply ldAt0 H 0); exact rfl; exact rfl; exact rfl) | ((with_reducible apply ldAt H 1); exact rfl; exact rfl; exact rfl) | ((with_reducible apply ldAt0 H 1); exact rfl; exact rfl; exact rfl)))
      rename Nat => pg
      rename Heap => hw9
      have hac := (H.own 5 rfl).2.1
      have halln := H.n (E := eRS) 5 rfl
      rw [List.length_append] at halln
      have H : At hB hw9 [.blk pg 119 [.int .i64 tg, .int .i64 vg, .slice sg.a sg.n sg.c], .own sg 2 (eEN.fl eg), .own all 2 (eRS.fl (r1 ++ r2))] := ((H.del 2).del 2).del 2
      have hcode : code = 2 ∨ code = 0 := by rcases hcase with h | h <;> simp [h.2]
      refine loop1 (s1 := .one (.int .i64)) (fun (x : Int) h10 => ∃ kk : Nat, x = kk ∧ kk ≤ r1.length + j ∧ At hB h10 [.blk pg 119 [.int .i64 tg, .int .i64 vg, .slice sg.a sg.n sg.c], .own sg 2 (eEN.fl eg), .own all 2 (eRS.fl (r1 ++ r2))]) (fun (x : Int) _ => (r1.length + j + 1 - x).toNat)
        ⟨r1.length, rfl, by omega, H⟩ fun _ (x : Int) h10 hI => ?_
      obtain ⟨kk, rfl, hkk, H⟩ := hI
      refine brD (fun hc3 => ?_) fun hc3 => absurd hc3 (by omega)
      refine cut_raw TRS 0 kk all.c lo0 (hii rfl) (.inl ⟨rfl, rfl⟩) (Nat.zero_le _) (by omega) (Nat.le_refl _) ?_
      refine ref06_Play_ok2 (rs := (r1 ++ r2).take kk) H (fun h' L H => rds_cutE ((H.subl (List.sublist_append_right ..)).rdo 2 rfl) kk all.c (by omega) (by omega)) (by rw [List.length_take, List.length_append]; omega) fun tv vv sv ev ok h11 hcase2 H => ?_
      repeat (first | with_reducible refine nn ?_ | with_reducible refine let_ ?_ | with_reducible refine brSome ?_ | with_reducible refine brF ?_ | with_reducible refine brT ?_ | ((with_reducible apply ldAt H 0); exact rfl; exact rfl) | ((with_reducible apply ldAt0 H 0); exact rfl; exact rfl) | ((with_reducible apply ldAt H 1); exact rfl; exact rfl) | ((with_reducible apply ldAt0 H 1); exact rfl; exact rfl) | ((with_reducible apply stAt H 0); exact rfl; exact rfl; intro h H) | ((with_reducible apply stAt0 H 0); exact rfl; exact rfl; intro h H) | ((with_reducible apply stAt H 1); exact rfl; exact rfl; intro h H) | ((with_reducible apply stAt0 H 1); exact rfl; exact rfl; intro h H) | ((with_reducible apply allocAt H); intro h b H) | ((with_reducible refine ⟨?_, ?_⟩); first | ((with_reducible apply ldAt H 0); exact rfl; exact rfl; exact rfl) | ((with_reducible apply ldAt0 H 0); exact rfl; exact rfl; exact rfl) | ((with_reducible apply ldAt H 1); exact rfl; exact rfl; exact rfl) | ((with_reducible apply ldAt0 H 1); exact rfl; exact rfl; exact rfl)))
      rename Nat => pv
      rename Heap => hw11
      have Hend : ∀ h', Ext hw11.size hw11 h' → At hB h' [.blk pg 119 [.int .i64 tg, .int .i64 vg, .slice sg.a sg.n sg.c], .own sg 2 (eEN.fl eg), .own all 2 (eRS.fl (r1 ++ r2))] := fun h' e => ((H.ext' e).del 0).del 0
      have step : kk ≠ r1.length + j → ∀ h', Ext hw11.size hw11 h' → (∃ kk' : Nat, IntKind.i64.wrap ((kk : Int) + 1) = kk' ∧ kk' ≤ r1.length + j ∧ At hB h' [.blk pg 119 [.int .i64 tg, .int .i64 vg, .slice sg.a sg.n sg.c], .own sg 2 (eEN.fl eg), .own all 2 (eRS.fl (r1 ++ r2))]) ∧ ((r1.length : Int) + j + 1 - IntKind.i64.wrap ((kk : Int) + 1)).toNat < ((r1.length : Int) + j + 1 - (kk : Int)).toNat := fun hne h' e => by
        rw [w64 (by omega) (by omega)]
        exact ⟨⟨kk + 1, by omega, by omega, Hend h' e⟩, by omega⟩
      rcases hcase2 with ⟨hp2, rfl⟩ | ⟨hp2, rfl⟩
      · refine brF (brT ?_)
        rcases hcase with ⟨hp, rfl⟩ | ⟨hp, rfl⟩
        · exact brY rfl ⟨rfl, H.ext⟩
        · refine brN rfl (let_ (step (fun e => ?_) _ (Ext.refl _ _)))
          rw [e, hp] at hp2
          cases hp2
      · refine brT ?_
        rcases hcase with ⟨hp, rfl⟩ | ⟨hp, rfl⟩
        · refine brN rfl (brF (let_ (step (fun e => ?_) _ (Ext.refl _ _))))
          rw [e, hp] at hp2
          cases hp2
        · refine brY rfl ?_
          refine ldAt0 H 2 rfl tg rfl (ldAt H 2 rfl vg rfl (ldAt H 2 rfl sg rfl (ldAt0 H 0 rfl tv rfl (ldAt H 0 rfl vv rfl (ldAt H 0 rfl sv rfl ?_)))))
          have hegl := H.n (E := eEN) 3 rfl
          have hegc := (H.own 3 rfl).2
          refine ref06_Same_ok (H.rdo 3 rfl) (H.rdo 1 rfl) ?_ fun w h12 e12 hw12 => ?_
          · have := playM_len hp
            rw [List.length_take, List.length_append] at this
            simp only at this
            omega
          cases w with
          | true => exact brT ⟨rfl, H.ext.trans (e12.mono H.ext.1)⟩
          | false =>
            refine brF (brF (let_ (step (fun e => ?_) _ e12)))
            rw [e, hp] at hp2
            injection hp2 with hp2
            have := hw12.2 hp2
            cases this
    · refine br beq_iff_eq (fun ht => ?_) fun ht => ?_
      · have hb20 : b2 = [] := List.eq_nil_of_length_eq_zero (by omega)
        have hr20 : r2 = [] := by rw [← hr2, hb20]; rfl
        refine disk_Sync_ok H fun h7 H => ?_
        have e : (recsM (r1 ++ r2)).length = (recsM r1).length := by rw [hr20, List.append_nil]
        rw [e] at H
        exact H
      · rw [if_neg (by omega)] at H
        exact H
end Go.Proofs.Ytnognoiaakiepaa
