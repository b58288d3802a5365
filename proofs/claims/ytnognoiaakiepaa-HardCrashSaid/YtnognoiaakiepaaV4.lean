/-
  Layer 5 (wal): the laws WalSpoilt, WalCrash over the heap alone.
-/
import Derived.Test.YtnognoiaakiepaaV3
namespace Go.Proofs.Ytnognoiaakiepaa
open Go

/-- A row of records, as an argument. -/
def ArgW (h : Heap) (s : Sl) (bs : List BR) : Prop := RdS h 2 s (eBR.fl bs) ∧ ∀ a ∈ bs, RdS h 1 a.s (cB a.xs) ∧ a.s.n ≤ a.s.c ∧ a.s.c ≤ 140737488351232
theorem recsM_le : ∀ (l : List WRec), (∀ r ∈ l, r.data.length ≤ 300) → (recsM l).length ≤ l.length * 309
  | [], _ => Nat.zero_le _
  | r :: l, h => by
    have h1 := recsM_le l fun x hx => h x (List.mem_cons_of_mem _ hx)
    have h2 := h r (List.mem_cons_self ..)
    have h3 := recM_length r
    rw [recsM_cons, List.length_append, List.length_cons]
    omega
set_option maxRecDepth 100000 in
theorem law05_WalSpoilt_ok {l tail : Sl} {at_ by_ : Int} {hB : Heap} {bs : List BR} {q : List UInt8} (w0 : ArgW hB l bs) (w1 : Arg hB 1 tail (cB q) ∧ tail.below hB.size ∧ tail.c ≤ 140737488351232) (w2 : -9223372036854775808 ≤ at_ ∧ at_ ≤ 9223372036854775807) (w3 : 0 ≤ by_ ∧ by_ ≤ 255) :
    C_law05_WalSpoilt l tail at_ by_ hB fun r h' => r = true ∧ Ext hB.size hB h' := by
  refine A_law05_WalSpoilt ?_
  unfold S_law05_WalSpoilt
  obtain ⟨A, hbs⟩ := w0
  obtain ⟨hq, _, hqc⟩ := w1
  have hqn := rd_b hq.rd
  have hn := rdn A
  obtain ⟨y, rfl⟩ : ∃ n : UInt8, by_ = n.toNat := ⟨UInt8.ofNat by_.toNat, by simp; omega⟩
  refine law05_fixed_ok fun h0 e0 => brN rfl (br beq_iff_eq (fun _ => ⟨rfl, e0⟩) fun hc1 => brD (fun _ => ⟨rfl, e0⟩) fun hc2 => brD (fun _ => ⟨rfl, e0⟩) fun hc3 => br beq_iff_eq (fun _ => ⟨rfl, e0⟩) fun hc4 => ?_)
  refine disk_New_ok (At.of_ext e0) fun h1 d ty H => ?_
  refine loop1 (s1 := .one (.int .i64)) (fun (x : Int) h2 => ∃ (k : Nat) (s : Sl), x = k ∧ k ≤ bs.length ∧ At hB h2 (diskL d ty s (recsM ((bs.take k).map BR.rec_)) 0 ++ []) ∧ ∀ r ∈ (bs.take k).map BR.rec_, r.ok ∧ r.data.length ≤ 300) (fun (x : Int) _ => (bs.length - x).toNat)
    ⟨0, _, rfl, Nat.zero_le _, H, (fun r hr => by cases hr)⟩ fun _ (x : Int) h2 hI => ?_
  obtain ⟨k, s, rfl, hk, H, hok⟩ := hI
  have hle := recsM_le _ fun r hr => (hok r hr).2
  rw [List.length_map, List.length_take] at hle
  refine brD (fun hc => ?_) fun hc => ?_
  · have hk2 : k < bs.length := by omega
    obtain ⟨ra, hac, hac2⟩ := hbs _ (List.getElem_mem hk2)
    have hxn := rd_b ra
    refine ixR (H.arg A) k rfl hk2 fun e he => ?_
    repeat (first | with_reducible refine nn ?_ | with_reducible refine let_ ?_ | with_reducible refine brSome ?_ | with_reducible refine brF ?_ | with_reducible refine brT ?_ | ((with_reducible apply ldAt H 0); exact rfl; exact rfl) | ((with_reducible apply ldAt0 H 0); exact rfl; exact rfl) | ((with_reducible apply ldR (H.arg A)); assumption; (case hk => assumption); exact rfl) | ((with_reducible apply ldR0 (H.arg A)); assumption; (case hk => assumption); exact rfl) | ((with_reducible apply stAt H 0); exact rfl; exact rfl; intro h H) | ((with_reducible apply stAt0 H 0); exact rfl; exact rfl; intro h H) | ((with_reducible apply allocAt H); intro h b H) | ((with_reducible refine ⟨?_, ?_⟩); first | ((with_reducible apply ldAt H 0); exact rfl; exact rfl; exact rfl) | ((with_reducible apply ldAt0 H 0); exact rfl; exact rfl; exact rfl)))
    refine brD (fun _ => ⟨rfl, H.ext⟩) fun hc5 => ?_
    repeat (first | with_reducible refine nn ?_ | with_reducible refine let_ ?_ | with_reducible refine brSome ?_ | with_reducible refine brF ?_ | with_reducible refine brT ?_ | ((with_reducible apply ldAt H 0); exact rfl; exact rfl) | ((with_reducible apply ldAt0 H 0); exact rfl; exact rfl) | ((with_reducible apply stAt H 0); exact rfl; exact rfl; intro h H) | ((with_reducible apply stAt0 H 0); exact rfl; exact rfl; intro h H) | ((with_reducible apply allocAt H); intro h b H) | ((with_reducible refine ⟨?_, ?_⟩); first | ((with_reducible apply ldAt H 0); exact rfl; exact rfl; exact rfl) | ((with_reducible apply ldAt0 H 0); exact rfl; exact rfl; exact rfl)))
    have H := H.tail
    refine wal_Append_ok H (H.arg ra) (by omega) (fun _ e h' hne H' => brY (by simpa using hne) ⟨rfl, H'.ext⟩) (fun hr hf => ?_) fun hr hf h' s' H' => brN rfl ?_
    · have h1 := recM_length (⟨bs[k].kind, bs[k].xs⟩ : WRec)
      have h2 : ¬ ((bs[k].s.n : Nat) : Int) > 300 := hc5
      simp only at h1
      omega
    · have h2 : ¬ ((bs[k].s.n : Nat) : Int) > 300 := hc5
      rw [w64 (by omega) (by omega)]
      have et : (bs.take (k + 1)).map BR.rec_ = (bs.take k).map BR.rec_ ++ [⟨bs[k].kind, bs[k].xs⟩] := by rw [take_snoc bs k hk2, List.map_append]; rfl
      refine ⟨⟨k + 1, s', by omega, by omega, ?_, fun r hr' => ?_⟩, by omega⟩
      · rw [et, recsM_app]
        have : recsM [⟨bs[k].kind, bs[k].xs⟩] = recM ⟨bs[k].kind, bs[k].xs⟩ := by simp [recsM]
        rw [this]; exact H'
      · rw [et] at hr'
        rcases List.mem_append.1 hr' with hr' | hr'
        · exact hok r hr'
        · rw [List.mem_singleton.1 hr']; exact ⟨hr, by show bs[k].xs.length ≤ 300; omega⟩
  · have hkl : k = bs.length := by omega
    subst hkl
    rw [List.take_length] at H hok hle
    generalize hrs : bs.map BR.rec_ = rs at *
    have hrl : rs.length = bs.length := by rw [← hrs, List.length_map]
    refine disk_Sync_ok H fun h3 H => ?_
    have hD0 : 0 < (recsM rs).length := by
      cases rs with
      | nil => simp at hrl; omega
      | cons r rs => have := recM_length r; rw [recsM_cons, List.length_append]; omega
    refine disk_Write_ok H (H.arg hq.rd) (by omega) (by omega) (fun hf => by omega) fun _ h4 s4 H => ?_
    refine disk_Len_ok H (disk_Synced_ok H ?_)
    rw [wu64 (n := ((recsM rs).length : Int)) (by omega) (by omega)]
    refine nz (by omega) ?_
    rw [rem_nonneg (by rw [wrU64]; omega)]
    have m0 : 0 ≤ IntKind.u64.wrap at_ % ((recsM rs).length : Int) := Int.emod_nonneg _ (by omega)
    have m1 : IntKind.u64.wrap at_ % ((recsM rs).length : Int) < ((recsM rs).length : Int) := Int.emod_lt_of_pos _ (by omega)
    rw [w64 (by omega) (by omega)]
    generalize IntKind.u64.wrap at_ % ((recsM rs).length : Int) = k at *
    refine disk_Spoil_ok H rfl (by rw [List.length_append]; omega) (fun hb => by omega) fun k hk hkn h5 H => brN rfl ?_
    rw [flp_app1 hkn] at H
    have hsp := walM_spoilt [] rs k y q ((flp (recsM rs) k y ++ q).length + 1) [] (fun r hr => (hok r hr).1) hkn (by omega) (by simp)
    simp only [List.nil_append, List.length_nil, Nat.zero_add] at hsp
    have hfl := flp_length (recsM rs) k y
    have hsp : (walR (flp (recsM rs) k y ++ q)).2.1 ≤ k := hsp
    refine wal_Recover_ok H (by rw [List.length_append]; omega) (fun _ h6 H => brY rfl (brY rfl (disk_Len_ok H ⟨?_, H.ext⟩))) fun hge => by omega
    rw [beq_iff_eq, List.length_append, List.length_append, hfl]
set_option maxRecDepth 100000 in
set_option maxHeartbeats 1000000 in
theorem law05_WalCrash_ok {synced tail : Sl} {keep at_ by_ : Int} {hB : Heap} {b1 b2 : List BR} (w0 : ArgW hB synced b1) (w1 : ArgW hB tail b2) (w2 : -9223372036854775808 ≤ keep ∧ keep ≤ 9223372036854775807) (w3 : -9223372036854775808 ≤ at_ ∧ at_ ≤ 9223372036854775807) (w4 : 0 ≤ by_ ∧ by_ ≤ 255) :
    C_law05_WalCrash synced tail keep at_ by_ hB fun r h' => r = true ∧ Ext hB.size hB h' := by
  refine A_law05_WalCrash ?_
  unfold S_law05_WalCrash
  obtain ⟨A1, hb1⟩ := w0
  obtain ⟨A2, hb2⟩ := w1
  have hn1 := rdn A1
  have hn2 := rdn A2
  obtain ⟨y, rfl⟩ : ∃ n : UInt8, by_ = n.toNat := ⟨UInt8.ofNat by_.toNat, by simp; omega⟩
  refine law05_fixed_ok fun h0 e0 => brN rfl (brD (fun _ => ⟨rfl, e0⟩) fun hc1 => brD (fun _ => ⟨rfl, e0⟩) fun hc2 => ?_)
  refine disk_New_ok (At.of_ext e0) fun h1 d ty H => ?_
  refine allocAt H fun h2 bb H => ?_
  have hbb : Blk h2 bb _ [] := H.get 0 rfl
  have ob : Own h2 2 ⟨some ⟨bb, 0, none⟩, 0, 0⟩ (eBR.fl []) := Own.full hbb (sz := 2) (n := 0) (by rfl) (by decide)
  have H := H.as_ 0 rfl (.own ⟨some ⟨bb, 0, none⟩, 0, 0⟩ 2 (eBR.fl [])) ob fun g hg => by simp [Res.fp, Sl.blk] at hg ⊢; omega
  refine appAt (E := eBR) TWR H 0 rfl (H.arg A1) (by simp; omega) (by simp; omega) fun s3 h3 H => ?_
  refine appAt (E := eBR) TWR H 0 rfl (H.arg A2) (by simp; omega) (by simp; omega) fun s4 h4 H => ?_
  rw [List.nil_append] at H
  have hbs : ∀ a ∈ b1 ++ b2, RdS hB 1 a.s (cB a.xs) ∧ a.s.n ≤ a.s.c ∧ a.s.c ≤ 140737488351232 := fun a ha => (List.mem_append.1 ha).elim (hb1 a) (hb2 a)
  have hln : (b1 ++ b2).length = b1.length + b2.length := List.length_append
  generalize hbse : b1 ++ b2 = bs at *
  have H : At hB h4 (diskL d ty ⟨none, 0, 0⟩ [] 0 ++ [.own s4 2 (eBR.fl bs), .own ⟨none, 0, 0⟩ 2 (eRS.fl [])]) := ((H.mv 1 2).nil 2).perm (by
    show List.Perm [_, _, _, _] [_, _, _, _]
    exact (List.Perm.swap ..).trans (List.Perm.cons _ ((List.Perm.swap ..).trans (List.Perm.cons _ (List.Perm.swap ..)))))
  have hs4 := H.n 2 rfl
  refine loop2 (s1 := .one .sl) (s2 := .one (.int .i64)) (fun (all : Sl) (x : Int) h5 => ∃ (k : Nat) (s : Sl), x = k ∧ k ≤ bs.length ∧ At hB h5 (diskL d ty s (recsM ((bs.take k).map BR.rec_)) (if k ≤ b1.length then 0 else (recsM (b1.map BR.rec_)).length) ++ [.own s4 2 (eBR.fl bs), .own all 2 (eRS.fl ((bs.take k).map BR.rec_))]) ∧ ∀ r ∈ (bs.take k).map BR.rec_, r.ok ∧ r.data.length ≤ 300) (fun _ (x : Int) _ => (bs.length - x).toNat)
    ⟨0, _, rfl, Nat.zero_le _, by rw [if_pos (Nat.zero_le _)]; exact H, (fun r hr => by cases hr)⟩ fun _ (all : Sl) (x : Int) h5 hI => ?_
  obtain ⟨k, s, rfl, hk, H, hok⟩ := hI
  have hle := recsM_le _ fun r hr => (hok r hr).2
  rw [List.length_map, List.length_take] at hle
  refine brD (fun hc => ?_) fun hc => ?_
  · have hk2 : k < bs.length := by omega
    obtain ⟨ra, hac, hac2⟩ := hbs _ (List.getElem_mem hk2)
    have hxn := rd_b ra
    refine ixAt (E := eBR) H 2 rfl k rfl hk2 fun e he => ?_
    refine ldEl0 (E := eBR) H 2 rfl he hk2 _ rfl (ldEl (E := eBR) H 2 rfl he hk2 _ rfl ?_)
    repeat (first | with_reducible refine nn ?_ | with_reducible refine let_ ?_ | with_reducible refine brSome ?_ | with_reducible refine brF ?_ | with_reducible refine brT ?_ | ((with_reducible apply ldAt H 0); exact rfl; exact rfl) | ((with_reducible apply ldAt0 H 0); exact rfl; exact rfl) | ((with_reducible apply stAt H 0); exact rfl; exact rfl; intro h H) | ((with_reducible apply stAt0 H 0); exact rfl; exact rfl; intro h H) | ((with_reducible apply allocAt H); intro h b H) | ((with_reducible refine ⟨?_, ?_⟩); first | ((with_reducible apply ldAt H 0); exact rfl; exact rfl; exact rfl) | ((with_reducible apply ldAt0 H 0); exact rfl; exact rfl; exact rfl)))
    rename Nat => p1
    refine toS BT (H.arg ra) ?_
    repeat (first | with_reducible refine nn ?_ | with_reducible refine let_ ?_ | with_reducible refine brSome ?_ | with_reducible refine brF ?_ | with_reducible refine brT ?_ | ((with_reducible apply ldAt H 0); exact rfl; exact rfl) | ((with_reducible apply ldAt0 H 0); exact rfl; exact rfl) | ((with_reducible apply ldAt H 1); exact rfl; exact rfl) | ((with_reducible apply ldAt0 H 1); exact rfl; exact rfl) | ((with_reducible apply stAt H 0); exact rfl; exact rfl; intro h H) | ((with_reducible apply stAt0 H 0); exact rfl; exact rfl; intro h H) | ((with_reducible apply stAt H 1); exact rfl; exact rfl; intro h H) | ((with_reducible apply stAt0 H 1); exact rfl; exact rfl; intro h H) | ((with_reducible apply allocAt H); intro h b H) | ((with_reducible refine ⟨?_, ?_⟩); first | ((with_reducible apply ldAt H 0); exact rfl; exact rfl; exact rfl) | ((with_reducible apply ldAt0 H 0); exact rfl; exact rfl; exact rfl) | ((with_reducible apply ldAt H 1); exact rfl; exact rfl; exact rfl) | ((with_reducible apply ldAt0 H 1); exact rfl; exact rfl; exact rfl)))
    rename Nat => p2
    refine brD (fun _ => ⟨rfl, H.ext⟩) fun hc5 => ?_
    have h2 : ¬ ((bs[k].s.n : Nat) : Int) > 300 := hc5
    repeat (first | with_reducible refine nn ?_ | with_reducible refine let_ ?_ | with_reducible refine brSome ?_ | with_reducible refine brF ?_ | with_reducible refine brT ?_ | ((with_reducible apply ldAt H 0); exact rfl; exact rfl) | ((with_reducible apply ldAt0 H 0); exact rfl; exact rfl) | ((with_reducible apply ldAt H 1); exact rfl; exact rfl) | ((with_reducible apply ldAt0 H 1); exact rfl; exact rfl) | ((with_reducible apply stAt H 0); exact rfl; exact rfl; intro h H) | ((with_reducible apply stAt0 H 0); exact rfl; exact rfl; intro h H) | ((with_reducible apply stAt H 1); exact rfl; exact rfl; intro h H) | ((with_reducible apply stAt0 H 1); exact rfl; exact rfl; intro h H) | ((with_reducible apply allocAt H); intro h b H) | ((with_reducible refine ⟨?_, ?_⟩); first | ((with_reducible apply ldAt H 0); exact rfl; exact rfl; exact rfl) | ((with_reducible apply ldAt0 H 0); exact rfl; exact rfl; exact rfl) | ((with_reducible apply ldAt H 1); exact rfl; exact rfl; exact rfl) | ((with_reducible apply ldAt0 H 1); exact rfl; exact rfl; exact rfl)))
    refine ref05_Right_ok fun h6 e6 v hv => ?_
    have H := H.ext' e6
    cases v with
    | false => exact brY rfl ⟨rfl, H.ext⟩
    | true =>
    have hr := hv.1 rfl
    refine brN rfl ?_
    have et : (bs.take (k + 1)).map BR.rec_ = (bs.take k).map BR.rec_ ++ [⟨bs[k].kind, bs[k].xs⟩] := by rw [take_snoc bs k hk2, List.map_append]; rfl
    have hrl := recM_length (⟨bs[k].kind, bs[k].xs⟩ : WRec)
    simp only at hrl
    have e1 : recsM ((bs.take (k + 1)).map BR.rec_) = recsM ((bs.take k).map BR.rec_) ++ recM ⟨bs[k].kind, bs[k].xs⟩ := by
      rw [et, recsM_app]; congr 1; simp [recsM]
    have hfst : bs.take b1.length = b1 := by rw [← hbse]; exact List.take_left
    -- the disk behind the syncing, if there is one
    refine join0 (fun h7 => ∃ t1 t2, At hB h7 (.blk p2 t2 [.int .u8 (bs[k].kind.toNat : Nat), .string (strB bs[k].xs)] :: .blk p1 t1 [.int .u8 (bs[k].kind.toNat : Nat), .slice bs[k].s.a bs[k].s.n bs[k].s.c] :: (diskL d ty s (recsM ((bs.take k).map BR.rec_)) (if k + 1 ≤ b1.length then 0 else (recsM (b1.map BR.rec_)).length) ++ [.own s4 2 (eBR.fl bs), .own all 2 (eRS.fl ((bs.take k).map BR.rec_))]))) (fun _ h7 hJ => ?_) ?_
    · obtain ⟨t1, t2, H⟩ := hJ
      refine ldAt0 H 1 rfl _ rfl (ldAt H 1 rfl _ rfl ?_)
      have H2 := H.mv 2 2
      refine wal_Append_ok (k := bs[k].kind) (F := _ :: _ :: _) H2 (H2.arg ra) (by omega) (fun hn => absurd hr hn) (fun _ hf => by omega) fun _ _ h8 s8 H => brN rfl ?_
      refine ldAt0 H 2 rfl _ rfl (ldAt H 2 rfl _ rfl ?_)
      have H3 := (H.del 2).del 2
      refine app1At (E := eRS) TRS H3 3 rfl ⟨bs[k].kind, bs[k].xs⟩ (by rw [List.length_map, List.length_take]; omega) (by rw [List.length_map, List.length_take]; omega) fun s9 h9 H => ?_
      rw [w64 (by omega) (by omega)]
      refine ⟨⟨k + 1, s8, by omega, by omega, ?_, fun r hr' => ?_⟩, by omega⟩
      · rw [e1, et]; exact H
      · rw [et] at hr'
        rcases List.mem_append.1 hr' with hr' | hr'
        · exact hok r hr'
        · rw [List.mem_singleton.1 hr']; exact ⟨hr, by show bs[k].xs.length ≤ 300; omega⟩
    · refine br beq_iff_eq (fun hks => ?_) fun hks => ?_
      · have hkb : k = b1.length := by omega
        have H2 := H.mv 2 2
        refine disk_Sync_ok (F := _ :: _ :: _) H2 fun h7 H => ?_
        rw [if_neg (by omega)]
        have e2 : (recsM ((bs.take k).map BR.rec_)).length = (recsM (b1.map BR.rec_)).length := by rw [hkb, hfst]
        rw [e2] at H
        exact ⟨_, _, H.mv 2 2⟩
      · have e2 : (if k + 1 ≤ b1.length then 0 else (recsM (b1.map BR.rec_)).length) = (if k ≤ b1.length then 0 else (recsM (b1.map BR.rec_)).length) := by
          by_cases h1 : k + 1 ≤ b1.length
          · rw [if_pos h1, if_pos (by omega)]
          · rw [if_neg h1, if_neg (by omega)]
        rw [e2]
        exact ⟨_, _, H⟩
  · have hkl : k = bs.length := by omega
    subst hkl
    rw [List.take_length] at H hok hle
    have hrs : bs.map BR.rec_ = b1.map BR.rec_ ++ b2.map BR.rec_ := by rw [← hbse, List.map_append]
    rw [hrs] at H hok hle
    generalize hr1 : b1.map BR.rec_ = r1 at *
    generalize hr2 : b2.map BR.rec_ = r2 at *
    have hl1 : r1.length = b1.length := by rw [← hr1, List.length_map]
    have hl2 : r2.length = b2.length := by rw [← hr2, List.length_map]
    have ok1 : ∀ r ∈ r1, r.ok := fun r hr => (hok r (List.mem_append_left _ hr)).1
    have ok2 : ∀ r ∈ r2, r.ok := fun r hr => (hok r (List.mem_append_right _ hr)).1
    refine join0 (fun h7 => At hB h7 (diskL d ty s (recsM (r1 ++ r2)) (recsM r1).length ++ [.own s4 2 (eBR.fl bs), .own all 2 (eRS.fl (r1 ++ r2))])) (fun _ h7 H => ?_) ?_
    · have hD : recsM (r1 ++ r2) = recsM r1 ++ recsM r2 := recsM_app ..
      refine disk_Crash_ok H rfl (by rw [hD, List.length_append]; omega) (by omega) fun h8 s8 H => ?_
      have hcr : ∃ kp i c, crashL (recsM (r1 ++ r2)) (recsM r1).length keep at_ y = recsM r1 ++ flp ((recsM r2).take kp) i c := by
        unfold crashL
        rw [hD, List.length_append, Nat.add_sub_cancel_left]
        generalize min keep.toNat (recsM r2).length = kp
        have e : (recsM r1 ++ recsM r2).take ((recsM r1).length + kp) = recsM r1 ++ (recsM r2).take kp := List.take_length_add_append ..
        rw [e]
        split
        · exact ⟨kp, at_.toNat, y, by rw [flp_app2 (by omega), Nat.add_sub_cancel_left]⟩
        · exact ⟨kp, (recsM r2).length, y, by rw [flp_out (l := (recsM r2).take kp) (by rw [List.length_take]; omega)]⟩
      obtain ⟨kp, i, c, hcr⟩ := hcr
      rw [hcr] at H
      -- what is read of it
      obtain ⟨f', hf', hw1⟩ := walM_recs [] r1 (flp ((recsM r2).take kp) i c) ((recsM r1 ++ flp ((recsM r2).take kp) i c).length + 1) [] 0 ok1 rfl (by simp)
      simp only [List.nil_append, Nat.zero_add] at hf' hw1
      obtain ⟨j, ee, hj, hw2, hpre⟩ := walM_crash (recsM r1) r2 kp i c f' r1 ok2 (by omega)
      have hw : walR (recsM r1 ++ flp ((recsM r2).take kp) i c) = (r1 ++ r2.take j, (recsM r1).length + (recsM (r2.take j)).length, ee) := hw1.trans hw2
      have hDl : (recsM r1 ++ flp ((recsM r2).take kp) i c).length ≤ 1048576 := by
        rw [List.length_append, flp_length, List.length_take]
        rw [hD, List.length_append] at hle
        omega
      have hcut : (recsM r1 ++ flp ((recsM r2).take kp) i c).take ((recsM r1).length + (recsM (r2.take j)).length) = recsM (r1 ++ r2.take j) := by
        rw [List.take_length_add_append, hpre, recsM_app]
      have hlenp : (recsM (r1 ++ r2.take j)).length = (recsM r1).length + (recsM (r2.take j)).length := by rw [recsM_app, List.length_append]
      generalize hDD : recsM r1 ++ flp ((recsM r2).take kp) i c = D at *
      have hrt : (r1 ++ r2).take (r1.length + j) = r1 ++ r2.take j := List.take_length_add_append ..
      refine disk_Bytes_ok H hDl fun r9 h9 o9 f9 e9 => ?_
      have H := (H.new e9 (r := .own r9 1 (cB D)) o9 f9).mv 1 2
      have hlr : (r1 ++ r2.take j).length = r1.length + j := by rw [List.length_append, List.length_take]; omega
      have hallg := H.n (E := eRS) 4 rfl
      rw [List.length_append] at hallg
      refine wal_Recover_ok (F := [_, _, _]) H hDl (fun hlt => by rw [hw] at hlt; simp only at hlt; omega) fun _ h10 out bs1 s10 hbs1 _ H => brN rfl ?_
      rw [hw] at hbs1 H
      simp only at hbs1 H
      rw [hcut] at H
      have hbl : bs1.length = r1.length + j := by have := congrArg List.length hbs1; rw [List.length_map] at this; omega
      have w : RdS h10 2 out (eBR.fl bs1) ∧ ∀ x ∈ bs1, RdS h10 1 x.s (cB x.xs) := H.get 2 rfl
      have hon := rdn w.1
      have hac := (H.own 5 rfl).2.1
      refine brN (decide_eq_false (by omega)) (brN (decide_eq_false (by omega)) ?_)
      refine cutR (E := eRS) TRS (H.rdo 5 rfl) 0 (r1.length + j) all.c lo0 (hii (by omega)) (.inl ⟨rfl, rfl⟩) (by omega) (by rw [List.length_append]; omega) (by omega) (Nat.le_refl _) fun s11 r11 n11 _ _ => ?_
      rw [List.drop_zero, Nat.sub_zero, hrt] at r11
      refine law05_same_ok w r11 (by omega) fun v hv => ?_
      obtain rfl : v = true := hv.2 hbs1
      refine brN rfl ?_
      refine ref05_Read_ok (H.rdo 3 rfl) (H.own 3 rfl).2.1 (by omega) fun o12 h12 q12 f12 e12 => ?_
      rw [hw] at q12 ⊢
      simp only at q12 ⊢
      have H := H.ext' e12
      have hn12 := ownn q12
      obtain ⟨f2, hf2, hw3⟩ := walM_recs [] (r1 ++ r2.take j) [] ((recsM (r1 ++ r2.take j)).length + 1) [] 0 (fun r hr => (List.mem_append.1 hr).elim (ok1 r) fun hr => ok2 r (List.mem_of_mem_take hr)) rfl (by simp)
      simp only [List.nil_append, Nat.zero_add, List.append_nil] at hf2 hw3
      rw [walM_done (Nat.lt_irrefl _)] at hw3
      have hw4 : walR (recsM (r1 ++ r2.take j)) = (r1 ++ r2.take j, (recsM (r1 ++ r2.take j)).length, 0) := hw3
      rw [hlenp] at hw4
      refine wal_Recover_ok (F := [_, _, _, _]) H (by rw [hlenp, ← hlenp, ← hcut, List.length_take]; omega) (fun hlt => by rw [hw4] at hlt; simp only at hlt; omega) fun _ h13 out2 bs2 s13 hbs2 _ H => ?_
      rw [hw4] at hbs2 H
      simp only at hbs2 H
      have w2 : RdS h13 2 out2 (eBR.fl bs2) ∧ ∀ x ∈ bs2, RdS h13 1 x.s (cB x.xs) := H.get 2 rfl
      refine brY (by rw [beq_iff_eq]; omega) (brY rfl ?_)
      refine cutR (E := eRS) TRS (H.rdo 6 rfl) 0 (r1.length + j) all.c lo0 (hii (by omega)) (.inl ⟨rfl, rfl⟩) (by omega) (by rw [List.length_append]; omega) (by omega) (Nat.le_refl _) fun s14 r14 n14 _ _ => ?_
      rw [List.drop_zero, Nat.sub_zero, hrt] at r14
      have hbl2 : bs2.length = r1.length + j := by have := congrArg List.length hbs2; rw [List.length_map] at this; omega
      refine law05_same_ok w2 r14 (by omega) fun v hv => ?_
      obtain rfl : v = true := hv.2 hbs2
      refine brY rfl (disk_Len_ok H (brY ?_ (disk_Synced_ok H ⟨by simp, H.ext⟩)))
      rw [beq_iff_eq, List.length_take, hlenp]
      omega
    · have hk0 : ¬ bs.length ≤ b1.length ∨ b2.length = 0 := by omega
      refine br beq_iff_eq (fun ht => ?_) fun ht => ?_
      · have hb20 : b2 = [] := List.eq_nil_of_length_eq_zero (by omega)
        have hr20 : r2 = [] := by rw [← hr2, hb20]; rfl
        refine disk_Sync_ok H fun h7 H => ?_
        have e : (recsM (r1 ++ r2)).length = (recsM r1).length := by rw [hr20, List.append_nil]
        rw [e] at H
        exact H
      · rw [if_neg (by omega)] at H
        exact H
section
open Go.ChangeShapes Go.WideShapes
variable {H : Type} {enc : TypeId × Value → H} {w : World} {b0 : Nat} {v : Value} {d : DataW H} {ps : List MemPlace}
set_option maxRecDepth 100000 in
theorem args_u8s (hval : Value.okWide Try.prog w .any b0 22 v) (hd : DataW.Trod enc Try.prog w 0 (fun _ => true) true 22 v d ps) (hf : Fits Try.prog 22 d) :
    ∃ (s : Sl) (xs : List UInt8), v = s.v ∧ Arg w.heap 1 s (cB xs) ∧ s.below w.heap.size ∧ s.c ≤ 140737488351232 :=
  args_bytes Try.underlying22 Try.underlying5 (by kernel_rfl) (of_decide_eq_true (by kernel_rfl)) hval hd hf
set_option maxRecDepth 100000 in
theorem els_record : ElS enc Try.prog w 24 fun cs => ∃ a : BR, cs = eBR.cells a ∧ RdS w.heap 1 a.s (cB a.xs) ∧ a.s.n ≤ a.s.c ∧ a.s.c ≤ 140737488351232 := by
  refine els_st Try.underlying24 fun cs hl hf => ?_
  have hl3 : cs.length = 2 := hl.trans (by kernel_rfl)
  match cs, hl3 with
  | [c0, c1], _ =>
    obtain ⟨_, _, h0, _⟩ := hf 0 _ rfl
    obtain ⟨_, x1, h1, f1⟩ := hf 1 _ rfl
    obtain ⟨n0, e0, w0⟩ := el_int Try.underlying5 _ _ _ h0
    obtain ⟨s, xs, e1, a1, w1⟩ := els_bytes Try.underlying22 Try.underlying5 (by kernel_rfl) (of_decide_eq_true (by kernel_rfl)) _ _ _ h1 f1
    have e0' : [c0] = [Value.int .u8 n0] := e0
    have e1' : [c1] = [s.v] := e1
    simp only [List.cons.injEq, and_true] at e0' e1'
    subst e0' e1'
    have hb := wf_u8 w0
    have hk : ((UInt8.ofNat n0.toNat).toNat : Int) = n0 := by simp; omega
    refine ⟨⟨UInt8.ofNat n0.toNat, s, xs⟩, ?_, a1.rd, a1.le, w1⟩
    show [Value.int .u8 n0, s.v] = [Value.int .u8 ((UInt8.ofNat n0.toNat).toNat : Nat), .slice s.a s.n s.c]
    rw [hk]
set_option maxRecDepth 100000 in
theorem args_records (hval : Value.okWide Try.prog w .any b0 26 v) (hd : DataW.Trod enc Try.prog w 0 (fun _ => true) true 26 v d ps) (hf : Fits Try.prog 26 d) :
    ∃ (s : Sl) (bs : List BR), v = s.v ∧ ArgW w.heap s bs := by
  obtain ⟨s, css, h1, _, h3, h4, _⟩ := args_sl (sz := 2) Try.underlying26 (by kernel_rfl) (by decide) (of_decide_eq_true (by kernel_rfl)) els_record hval hd hf
  obtain ⟨bs, h6, h7, _⟩ := cells_of eBR.cells _ fun c hc => (h3 c hc).2
  rw [h6] at h4
  exact ⟨s, bs, h1, h4.rd, h7⟩
end
end Go.Proofs.Ytnognoiaakiepaa
