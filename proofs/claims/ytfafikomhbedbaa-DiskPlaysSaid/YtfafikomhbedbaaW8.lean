/-
  Layer 4 (disk): the laws DiskPlays, DiskFull.
-/
import Derived.Test.YtfafikomhbedbaaW7
import Derived.Test.YtfafikomhbedbaaW5
import Derived.Test.YtfafikomhbedbaaEnd
namespace Go.Proofs.Ytfafikomhbedbaa
open Go

theorem cutS_take {l : List UInt8} {hi : Option Value} {K : ByteArray → Prop} (u : Nat) (hh : HiIs hi (strB l).size u) (hu : u ≤ l.length) (hk : K (strB (l.take u))) : CutS Try.prog 9 (strB l) none hi K := by
  refine cutS TXT 0 u lo0 hh (by omega) (by rw [strB_size]; exact hu) ?_
  rw [extract_strB]; simpa using hk
theorem cutS_drop {l : List UInt8} {lo : Option Value} {K : ByteArray → Prop} (u : Nat) (hh : LoIs lo u) (hu : u ≤ l.length) (hk : K (strB (l.drop u))) : CutS Try.prog 9 (strB l) lo none K := by
  refine cutS TXT u (strB l).size hh (hi0 _) (by rw [strB_size]; exact hu) (Nat.le_refl _) ?_
  rw [extract_strB, List.take_of_length_le (by rw [List.length_drop, strB_size]; omega)]; exact hk
theorem catB {a b : List UInt8} {K : ByteArray → Prop} (h : a.length + b.length ≤ 9223372036854775807) (hk : K (strB (a ++ b))) : Cat (strB a) (strB b) K :=
  cat (by rw [strB_size, strB_size]; exact h) (by rw [strB_append]; exact hk)

theorem fixC : crashL ([97, 98] ++ [99, 100]) 2 1 0 1 = [97, 98, 98] := by decide +kernel
theorem law04_fixed_ok {h : Heap} {R : Bool → Heap → Prop} (hR : ∀ h', Ext h.size h h' → R true h') : C_law04_fixed h R := by
  refine A_law04_fixed ?_
  unfold S_law04_fixed
  refine disk_New_ok (Nat.le_refl _) fun h1 d d1 e1 => ?_
  refine alloc (cs := cB [97, 98]) fun h2 b2 e2 z2 => frz BT b2 fun h3 b3 u3 z3 => ?_
  have E3 : Ext h1.size h1 h3 := e2.trans (u3.ext1 (Nat.le_refl _) (by omega))
  refine disk_Write_ok (d1.keep E3) (Own.full b3 (sz := 1) (n := 2) (by rfl) (by decide)).rd (by decide) (fun hx => absurd hx (by decide)) fun _ h4 d4 e4 => ?_
  refine disk_Sync_ok d4 fun h5 d5 e5 => ?_
  refine alloc (cs := cB [99, 100]) fun h6 b6 e6 z6 => frz BT b6 fun h7 b7 u7 z7 => ?_
  have E7 : Ext h5.size h5 h7 := e6.trans (u7.ext1 (Nat.le_refl _) (by omega))
  refine disk_Write_ok (d5.keep E7) (Own.full b7 (sz := 1) (n := 2) (by rfl) (by decide)).rd (by decide) (fun hx => absurd hx (by decide)) fun _ h8 d8 e8 => ?_
  refine disk_Crash_ok (c := 1) d8 rfl fun h9 d9 e9 => ?_
  have d9' : DRep h.size h9 d [97, 98, 98] 2 := by
    have := d9
    rwa [show crashL ([] ++ [97, 98] ++ [99, 100]) ([] ++ [97, 98] : List UInt8).length 1 0 1 = [97, 98, 98] by decide +kernel] at this
  refine disk_Spoil_ok (c := 1) d9' rfl (fun _ => ?_) fun h0 hx => absurd hx (by decide)
  refine disk_Cut_ok d9' (fun _ => ?_) fun _ hx => absurd hx (by decide)
  have E9 : Ext h.size h h9 := (((((e1.trans (E3.mono e1.1)).trans e4).trans e5).trans (E7.mono d5.le)).trans e8).trans e9
  refine brY rfl (brY rfl (brY rfl (disk_Bytes_ok d9' fun r h10 r10 _ _ _ _ e10 => toS BT r10 (brY (by rw [strB_toList, show (⟨#[97, 98, 98]⟩ : ByteArray) = strB [97, 98, 98] from rfl, strB_toList]; decide) ?_))))
  have d10 := d9'.keep e10
  refine disk_Synced_ok d10 (brY rfl (disk_Len_ok d10 (brY rfl (brY rfl (brY rfl ?_)))))
  refine disk_Write_nil (brY rfl (disk_Sync_nil (brY rfl (disk_Len_nil (disk_Synced_nil (disk_Bytes_nil ?_))))))
  exact hR _ (E9.trans (e10.mono d9'.le))

/-! ## DiskPlays -/
structure DAct where
  kind : Int
  b : Sl
  xs : List UInt8
  keep : Int
  n : Int
  by_ : UInt8
def DAct.cells (a : DAct) : List Value := [.int .u8 a.kind, .slice a.b.a a.b.n a.b.c, .int .i64 a.keep, .int .i64 a.n, .int .u8 a.by_.toNat]

theorem flp_right (a l : List UInt8) (i : Nat) (c : UInt8) : flp (a ++ l) (a.length + i) c = a ++ flp l i c := by
  unfold flp
  rw [List.getElem?_append_right (by omega), show a.length + i - a.length = i by omega]
  cases h : l[i]? with
  | none => rfl
  | some b => simp only; rw [List.set_append_right _ _ (by omega), show a.length + i - a.length = i by omega]
theorem flp_left (a l : List UInt8) (i : Nat) (c : UInt8) (hi : i < a.length) : flp (a ++ l) i c = flp a i c ++ l := by
  rw [flp_in hi, flp_in (by rw [List.length_append]; omega), List.getElem_append_left hi, List.set_append_left _ _ hi]
theorem crash_split (sy ta : List UInt8) (keep at_ : Int) (c : UInt8) : crashL (sy ++ ta) sy.length keep at_ c =
    sy ++ (if 0 ≤ at_ ∧ at_ < ((ta.take (min keep.toNat ta.length)).length : Nat) then flp (ta.take (min keep.toNat ta.length)) at_.toNat c else ta.take (min keep.toNat ta.length)) := by
  have e : (sy ++ ta).length - sy.length = ta.length := by rw [List.length_append]; omega
  unfold crashL
  rw [e]
  have hl : (ta.take (min keep.toNat ta.length)).length = min keep.toNat ta.length := by rw [List.length_take]; omega
  rw [hl]
  have ht : (sy ++ ta).take (sy.length + min keep.toNat ta.length) = sy ++ ta.take (min keep.toNat ta.length) := by rw [List.take_append, List.take_of_length_le (by omega)]; simp
  rw [ht]
  split
  · rw [flp_right]
  · rfl

/-- A byte of a text turned, as the laws write it. -/
theorem editB {l : List UInt8} {j : Nat} {c : UInt8} {K : ByteArray → Prop} (hj : j < l.length) (hlen : l.length ≤ 1000000000000) (hk : K (strB (flp l j c))) :
    Cat (strB (l.take j)) (strB [l[j] ^^^ c]) fun s => Cat s (strB (l.drop (j + 1))) K := by
  refine catB (by rw [List.length_take]; simp; omega) (catB (by rw [List.length_append, List.length_take, List.length_drop]; simp; omega) ?_)
  rwa [flp_eq hj] at hk

theorem law04_DiskPlays_ok {l : Sl} {acts : List DAct} {h : Heap} (wl : Arg h 5 l (acts.flatMap DAct.cells) ∧ l.below h.size ∧ ∀ a ∈ acts, (0 ≤ a.kind ∧ a.kind ≤ 255) ∧ (-9223372036854775808 ≤ a.n ∧ a.n ≤ 9223372036854775807) ∧ Arg h 1 a.b (cB a.xs)) :
    C_law04_DiskPlays l h fun r h' => r = true ∧ Ext h.size h h' := by
  obtain ⟨⟨hl, _, _, _⟩, hlb, hk⟩ := wl
  refine A_law04_DiskPlays ?_
  unfold S_law04_DiskPlays
  refine law04_fixed_ok fun h0 e0 => brN rfl ?_
  have hln : acts.length = l.n := by
    have := hl.1
    rw [flat_len DAct.cells 5 (fun _ => rfl)] at this
    omega
  refine brD (fun _ => ⟨rfl, e0⟩) fun hl80 => ?_
  refine disk_New_ok (B := h.size) e0.1 fun h1 d d1 e1 => ?_
  have E1 : Ext h.size h h1 := e0.trans (e1.mono e0.1)
  refine loop3 (s1 := .one .str) (s2 := .one .str) (s3 := .one (.int .i64)) (fun (synced tail : ByteArray) (x : Int) h2 => ∃ (k : Nat) (sy ta : List UInt8), k ≤ acts.length ∧ x = k ∧ synced = strB sy ∧ tail = strB ta ∧ DRep h.size h2 d (sy ++ ta) sy.length ∧ Ext h.size h h2 ∧ sy.length + ta.length ≤ 300 * k)
    (fun _ _ (x : Int) _ => (acts.length - x).toNat) ⟨0, [], [], Nat.zero_le _, rfl, rfl, rfl, d1, E1, Nat.le_refl _⟩ fun _ (synced tail : ByteArray) (x : Int) h2 hI => ?_
  obtain ⟨k, sy, ta, hk1, rfl, rfl, rfl, hD, hE, hlen⟩ := hI
  refine brD (fun hc => ?_) fun hc => ⟨rfl, hE⟩
  have hk2 : k < acts.length := by omega
  refine ixF (f := DAct.cells) (fun _ => rfl) (hl.ext hE hlb) k rfl hk2 (by decide) fun g o hg hce => ?_
  generalize ha : acts[k] = a at hce
  have hka := hk a (by rw [← ha]; exact List.getElem_mem hk2)
  obtain ⟨hkd, hn64, hArg⟩ := hka
  refine ldC0 hce (by decide) a.kind rfl (ldC hce 1 (by decide) a.b rfl (ldC hce 2 (by decide) a.keep rfl (ldC hce 3 (by decide) a.n rfl (ldC hce 4 (by decide) (a.by_.toNat : Int) rfl ?_))))
  refine alloc (cs := [.int .u8 0, .slice none 0 0, .int .i64 0, .int .i64 0, .int .u8 0]) fun h3 b3 e3 z3 => ?_
  refine stB b3 (by simp) fun h4 b4 u4 z4 => stF b4 (by simp) fun h5 b5 u5 z5 => stF b5 (by simp) fun h6 b6 u6 z6 => stF b6 (by simp) fun h7 b7 u7 z7 => stF b7 (by simp) fun h8 b8' u8 z8 => ?_
  have b8 : Blk h8 h2.size 47 a.cells := b8'
  have e8 : Ext h2.size h2 h8 := e3.trans ((two (two (two (two u4 u5) u6) u7) u8).ext1 (Nat.le_refl _) (by omega))
  have hD8 := hD.keep e8
  have hE8 : Ext h.size h h8 := hE.trans (e8.mono hD.le)
  have hArg8 := hArg.keep hE8 (Nat.le_refl _)
  refine ldF b8 a.b rfl (brD (fun _ => ⟨rfl, hE8⟩) fun hB300 => ?_)
  have hxl : a.b.n = a.xs.length := rd_n hArg8.rd
  refine ldB b8 a.kind rfl (nz (by decide) ?_)
  refine join4 (s1 := .one .str) (s2 := .one .str) (s3 := .one (.int .i64)) (s4 := .one (.int .i64)) (fun (synced1 tail1 : ByteArray) (want got : Int) h9 => ∃ sy ta : List UInt8, synced1 = strB sy ∧ tail1 = strB ta ∧ want = got ∧ DRep h.size h9 d (sy ++ ta) sy.length ∧ Ext h.size h h9 ∧ sy.length + ta.length ≤ 300 * (k + 1))
    (fun _ (synced1 tail1 : ByteArray) (want got : Int) h9 hJ => ?_) ?_
  · obtain ⟨sy', ta', rfl, rfl, rfl, hD9, hE9, hlen9⟩ := hJ
    refine brN (by simp) (disk_Bytes_ok hD9 fun r h10 r10 _ _ _ _ e10 => toS BT r10 (catB (by omega) (brN (by simp) ?_)))
    have hD10 := hD9.keep e10
    refine disk_Synced_ok hD10 (brN (by rw [strB_size]; simp) (disk_Len_ok hD10 (brN ?_ ?_)))
    · rw [strB_size, strB_size, w64 (by omega) (by omega), List.length_append]; simp
    · rw [w64 (by omega) (by omega)]
      exact ⟨⟨k + 1, sy', ta', by omega, by omega, rfl, rfl, hD10, hE9.trans (e10.mono hD9.le), hlen9⟩, by omega⟩
  · rw [rem_nonneg hkd.1]
    refine br beq_iff_eq (fun c0 => ?_) fun c0 => br beq_iff_eq (fun c1 => ?_) fun c1 => br beq_iff_eq (fun c2 => ?_) fun c2 => br beq_iff_eq (fun c3 => ?_) fun c3 => br beq_iff_eq (fun c4 => ?_) fun c4 => ?_
    · refine ldF b8 a.b rfl (toS BT hArg8.rd (catB (by omega) (ldF b8 a.b rfl ?_)))
      refine disk_Write_ok hD8 hArg8.rd (by omega) (fun hx => ?_) fun _ h9 d9 e9 => ?_
      · rw [List.length_append] at hx; omega
      · exact ⟨sy, ta ++ a.xs, rfl, rfl, rfl, by rwa [List.append_assoc] at d9, hE8.trans e9, by rw [List.length_append]; omega⟩
    · refine catB (by omega) (disk_Sync_ok hD8 fun h9 d9 e9 => ?_)
      exact ⟨sy ++ ta, [], rfl, rfl, rfl, by rw [List.append_nil]; exact d9, hE8.trans e9, by rw [List.length_append]; simp; omega⟩
    · refine ldF b8 a.keep rfl ?_
      have e1 : (if ((strB ta).size : Int) < (if 0 > a.keep then 0 else a.keep) then ((strB ta).size : Int) else if 0 > a.keep then 0 else a.keep) = ((min a.keep.toNat ta.length : Nat) : Int) := by
        rw [strB_size]; split <;> split <;> omega
      rw [e1]
      refine cutS_take (min a.keep.toNat ta.length) (hii rfl) (by omega) ?_
      generalize hta : ta.take (min a.keep.toNat ta.length) = ta'
      have htl : ta'.length ≤ ta.length := by rw [← hta, List.length_take]; omega
      -- the crash itself, once the text's tail is known
      have fin : ∀ (t2 : List UInt8) (h9 : Heap), t2 = (if 0 ≤ a.n ∧ a.n < (ta'.length : Nat) then flp ta' a.n.toNat a.by_ else ta') → Ext h8.size h8 h9 →
          Ld (.int .i64) h9 ((⟨h2.size, 0, none⟩ : Addr).add 2) fun (Keep1 : Int) => Ld (.int .i64) h9 ((⟨h2.size, 0, none⟩ : Addr).add 3) fun (N2 : Int) => Ld (.int .u8) h9 ((⟨h2.size, 0, none⟩ : Addr).add 4) fun (By : Int) =>
          C_disk_Disk_Crash (some ⟨d, 0, none⟩) Keep1 N2 By h9 fun (r7 : Int) h_16 => ∃ sy_1 ta_1 : List UInt8, strB sy = strB sy_1 ∧ strB t2 = strB ta_1 ∧ 0 = r7 ∧ DRep h.size h_16 d (sy_1 ++ ta_1) sy_1.length ∧ Ext h.size h h_16 ∧ sy_1.length + ta_1.length ≤ 300 * (k + 1) := by
        intro t2 h9 ht2 e9
        have b9 := b8.upd (e9.upd fun _ => False) (fun x => x)
        refine ldF b9 a.keep rfl (ldF b9 a.n rfl (ldF b9 (a.by_.toNat : Int) rfl ?_))
        refine disk_Crash_ok (hD8.keep e9) rfl fun h10 d10 e10 => ?_
        rw [crash_split, hta, ← ht2] at d10
        refine ⟨sy, t2, rfl, rfl, rfl, d10, (hE8.trans (e9.mono hD8.le)).trans e10, ?_⟩
        have : t2.length = ta'.length := by rw [ht2]; split; exact flp_length ..; rfl
        omega
      refine ldF b8 a.n rfl (brD (fun hn0 => ldF b8 a.n rfl ?_) fun hn0 => ?_)
      · refine join1 (s1 := .one .str) (fun (t : ByteArray) h9 => ∃ t2, t = strB t2 ∧ t2 = (if 0 ≤ a.n ∧ a.n < (ta'.length : Nat) then flp ta' a.n.toNat a.by_ else ta') ∧ Ext h8.size h8 h9) (fun _ (t : ByteArray) h9 hJ => ?_) ?_
        · obtain ⟨t2, rfl, ht2, e9⟩ := hJ
          exact fin t2 h9 ht2 e9
        · refine brD (fun hn1 => ?_) fun hn1 => ?_
          · rw [strB_size] at hn1
            have hj : a.n.toNat < ta'.length := by omega
            refine ldF b8 a.n rfl (cutS_take a.n.toNat (hii (by omega)) (by omega) (ldF b8 a.n rfl (ixS a.n.toNat (by omega) hj (ldF b8 (a.by_.toNat : Int) rfl (ldF b8 a.n rfl ?_)))))
            rw [w64 (by omega) (by omega), xor_byte]
            refine cutS_drop (a.n.toNat + 1) (loi (by omega)) (by omega) (alloc (cs := cB [ta'[a.n.toNat] ^^^ a.by_]) fun h9 b9 e9 z9 => ?_)
            have b89 := b8.upd (e9.upd fun _ => False) (fun x => x)
            refine ⟨ldF b89 a.n rfl rfl, ldF b89 a.n rfl rfl, toS BT (l := [ta'[a.n.toNat] ^^^ a.by_]) (Own.full b9 (sz := 1) (n := 1) (by rfl) (by decide)).rd (editB hj (by omega) ?_)⟩
            exact ⟨_, rfl, by rw [if_pos ⟨hn0, hn1⟩], e9⟩
          · rw [strB_size] at hn1
            exact ⟨ta', rfl, by rw [if_neg (by omega)], Ext.refl _ _⟩
      · refine join1 (s1 := .one .str) (fun (t : ByteArray) h9 => ∃ t2, t = strB t2 ∧ t2 = (if 0 ≤ a.n ∧ a.n < (ta'.length : Nat) then flp ta' a.n.toNat a.by_ else ta') ∧ Ext h8.size h8 h9) (fun _ (t : ByteArray) h9 hJ => ?_) ?_
        · obtain ⟨t2, rfl, ht2, e9⟩ := hJ
          exact fin t2 h9 ht2 e9
        · exact ⟨ta', rfl, by rw [if_neg (by omega)], Ext.refl _ _⟩
    · refine catB (by omega) (ldF b8 a.n rfl (brD (fun hn0 => ldF b8 a.n rfl ?_) fun hn0 => ldF b8 a.n rfl (brD (fun hn1 => ldF b8 a.n rfl ?_) fun hn1 => ldF b8 a.n rfl ?_)))
      · refine disk_Cut_ok hD8 (fun _ => ⟨sy, ta, rfl, rfl, rfl, hD8, hE8, by omega⟩) fun hx => by omega
      · rw [strB_size] at hn1
        refine disk_Cut_ok hD8 (fun _ => ⟨sy, ta, rfl, rfl, rfl, hD8, hE8, by omega⟩) fun _ hx => by omega
      · rw [strB_size] at hn1
        refine cutS_take a.n.toNat (hii (by omega)) (by omega) (ldF b8 a.n rfl (disk_Cut_ok hD8 (fun hx => by omega) fun _ hx h9 d9 e9 => ?_))
        have hl9 : ((sy ++ ta).take a.n.toNat).length = a.n.toNat := by rw [List.length_take]; omega
        have hall : (sy ++ ta).length = sy.length + ta.length := List.length_append
        exact ⟨(sy ++ ta).take a.n.toNat, [], rfl, rfl, rfl, by rw [List.append_nil, hl9]; exact d9, hE8.trans e9, by rw [hl9]; simp; omega⟩
    · have fin : ∀ (s2 : List UInt8) (want : Int) (h9 : Heap), (s2, want) = (if 0 ≤ a.n ∧ a.n < (sy.length : Nat) then (flp sy a.n.toNat a.by_, (0 : Int)) else (sy, 5)) → Ext h8.size h8 h9 →
          Ld (.int .i64) h9 ((⟨h2.size, 0, none⟩ : Addr).add 3) fun (N2 : Int) => Ld (.int .u8) h9 ((⟨h2.size, 0, none⟩ : Addr).add 4) fun (By : Int) =>
          C_disk_Disk_Spoil (some ⟨d, 0, none⟩) N2 By h9 fun (r7 : Int) h_16 => ∃ sy_1 ta_1 : List UInt8, strB s2 = strB sy_1 ∧ strB ta = strB ta_1 ∧ want = r7 ∧ DRep h.size h_16 d (sy_1 ++ ta_1) sy_1.length ∧ Ext h.size h h_16 ∧ sy_1.length + ta_1.length ≤ 300 * (k + 1) := by
        intro s2 want h9 hw e9
        have b9 := b8.upd (e9.upd fun _ => False) (fun x => x)
        have hE9 := hE8.trans (e9.mono hD8.le)
        have hD9 := hD8.keep e9
        refine ldF b9 a.n rfl (ldF b9 (a.by_.toNat : Int) rfl ?_)
        refine disk_Spoil_ok hD9 rfl (fun hx => ?_) fun hx hx1 h10 d10 e10 => ?_
        · rw [if_neg (by omega)] at hw
          injection hw with hw1 hw2
          rw [hw1, hw2]
          exact ⟨sy, ta, rfl, rfl, rfl, hD9, hE9, by omega⟩
        · rw [if_pos ⟨hx, hx1⟩] at hw
          injection hw with hw1 hw2
          subst hw1 hw2
          rw [flp_left _ _ _ _ (by omega)] at d10
          exact ⟨flp sy a.n.toNat a.by_, ta, rfl, rfl, rfl, by rw [flp_length]; exact d10, hE9.trans e10, by rw [flp_length]; omega⟩
      refine ldF b8 a.n rfl (brD (fun hn0 => ?_) fun hn0 => ldF b8 a.n rfl ?_)
      · refine join2 (s1 := .one .str) (s2 := .one (.int .i64)) (fun (t : ByteArray) (want : Int) h9 => ∃ s2, t = strB s2 ∧ (s2, want) = (if 0 ≤ a.n ∧ a.n < (sy.length : Nat) then (flp sy a.n.toNat a.by_, (0 : Int)) else (sy, 5)) ∧ Ext h8.size h8 h9) (fun _ (t : ByteArray) (want : Int) h9 hJ => ?_) ?_
        · obtain ⟨s2, rfl, hw, e9⟩ := hJ
          exact fin s2 want h9 hw e9
        · exact ⟨sy, rfl, by rw [if_neg (by omega)], Ext.refl _ _⟩
      · refine join2 (s1 := .one .str) (s2 := .one (.int .i64)) (fun (t : ByteArray) (want : Int) h9 => ∃ s2, t = strB s2 ∧ (s2, want) = (if 0 ≤ a.n ∧ a.n < (sy.length : Nat) then (flp sy a.n.toNat a.by_, (0 : Int)) else (sy, 5)) ∧ Ext h8.size h8 h9) (fun _ (t : ByteArray) (want : Int) h9 hJ => ?_) ?_
        · obtain ⟨s2, rfl, hw, e9⟩ := hJ
          exact fin s2 want h9 hw e9
        · refine brD (fun hn1 => ?_) fun hn1 => ?_
          · rw [strB_size] at hn1
            exact ⟨sy, rfl, by rw [if_neg (by omega)], Ext.refl _ _⟩
          · rw [strB_size] at hn1
            have hj : a.n.toNat < sy.length := by omega
            refine ldF b8 a.n rfl (cutS_take a.n.toNat (hii (by omega)) (by omega) (ldF b8 a.n rfl (ixS a.n.toNat (by omega) hj (ldF b8 (a.by_.toNat : Int) rfl (ldF b8 a.n rfl ?_)))))
            rw [w64 (by omega) (by omega), xor_byte]
            refine cutS_drop (a.n.toNat + 1) (loi (by omega)) (by omega) (alloc (cs := cB [sy[a.n.toNat] ^^^ a.by_]) fun h9 b9 e9 z9 => ?_)
            have b89 := b8.upd (e9.upd fun _ => False) (fun x => x)
            refine ⟨ldF b89 a.n rfl rfl, ldF b89 a.n rfl rfl, toS BT (l := [sy[a.n.toNat] ^^^ a.by_]) (Own.full b9 (sz := 1) (n := 1) (by rfl) (by decide)).rd (editB hj (by omega) ?_)⟩
            exact ⟨_, rfl, by rw [if_pos ⟨by omega, by omega⟩], e9⟩
    · exact ⟨sy, ta, rfl, rfl, rfl, hD8, hE8, by omega⟩

/-! ## DiskFull -/
theorem ZB : ZeroT Try.prog 5 [.int .u8 0] := ⟨by kernel_rfl⟩
theorem repl_cB (n : Nat) : (List.replicate n [Value.int .u8 0]).flatten = cB (List.replicate n 0) := by
  induction n with
  | zero => rfl
  | succ n ih => rw [List.replicate_succ, List.flatten_cons, ih, List.replicate_succ]; rfl
theorem law04_DiskFull_ok {less more : Int} {h : Heap} (w0 : 0 ≤ less ∧ less ≤ 65535) (w1 : 0 ≤ more ∧ more ≤ 65535) : C_law04_DiskFull less more h fun r h' => r = true ∧ Ext h.size h h' := by
  refine A_law04_DiskFull ?_
  unfold S_law04_DiskFull
  refine law04_fixed_ok fun h0 e0 => brN rfl ?_
  refine disk_New_ok (B := h.size) e0.1 fun h1 d d1 e1 => let_ ?_
  have E1 : Ext h.size h h1 := e0.trans (e1.mono e0.1)
  rw [w64 (n := less) (by omega) (by omega), w64 (n := more) (by omega) (by omega), w64 (n := 1048576 - less) (by omega) (by omega)]
  refine mk TB ZB (1048576 - less).toNat (1048576 - less).toNat (by omega) (by omega) (Nat.le_refl _) (by omega) (by omega) fun h2 b2 e2 z2 => ?_
  rw [repl_cB] at b2
  have r2 := (Own.full b2 (sz := 1) (n := (1048576 - less).toNat) (by rw [cB_length, List.length_replicate, Nat.mul_one]) (by omega)).rd
  refine disk_Write_ok (d1.keep e2) r2 (by rw [List.length_replicate]; omega) (fun hx => by rw [List.length_nil, List.length_replicate] at hx; omega) fun _ h3 d3 e3 => ?_
  refine mk TB ZB more.toNat more.toNat (by omega) (by omega) (Nat.le_refl _) (by omega) (by omega) fun h4 b4 e4 z4 => ?_
  rw [repl_cB] at b4
  have r4 := (Own.full b4 (sz := 1) (n := more.toNat) (by rw [cB_length, List.length_replicate, Nat.mul_one]) (by omega)).rd
  have E4 : Ext h.size h h4 := ((E1.trans (e2.mono d1.le)).trans e3).trans (e4.mono d3.le)
  have hl3 : ([] ++ List.replicate (1048576 - less).toNat (0 : UInt8)).length = (1048576 - less).toNat := by rw [List.nil_append, List.length_replicate]
  refine disk_Write_ok (d3.keep e4) r4 (by rw [List.length_replicate]; omega) (fun hx => ?_) fun hx h5 d5 e5 => ?_
  · rw [hl3, List.length_replicate] at hx
    refine brN rfl (brD (fun hc => ?_) fun hc => absurd hc (by omega))
    refine join1 (s1 := .one .bool) (fun (x : Bool) h' => x = true ∧ Ext h.size h h') (fun _ (x : Bool) h' hJ => hJ) ?_
    refine brY rfl (disk_Len_ok (d3.keep e4) ⟨?_, E4⟩)
    rw [hl3, beq_iff_eq]; omega
  · rw [hl3, List.length_replicate] at hx
    refine brN rfl (brD (fun hc => absurd hc (by omega)) fun hc => brY rfl (disk_Len_ok d5 ⟨?_, E4.trans e5⟩))
    rw [List.length_append, hl3, List.length_replicate, w64 (by omega) (by omega), beq_iff_eq]; omega

/-! ## The arguments -/
theorem u8_cast {n : Int} (hw : (Lit.int .u8 n).wf = true) : ∃ b : UInt8, n = (b.toNat : Int) := by
  have hb := wf_u8 hw
  refine ⟨UInt8.ofNat n.toNat, ?_⟩
  have : (UInt8.ofNat n.toNat).toNat = n.toNat := by simp; omega
  rw [this]; omega
section
open Go.ChangeShapes Go.WideShapes
variable {H : Type} {enc : TypeId × Value → H} {w : World} {b0 : Nat} {v : Value} {d : DataW H} {ps : List MemPlace}
set_option maxRecDepth 100000 in
theorem arg_act04 (hval : Value.okWide Try.prog w .any b0 43 v) (hd : DataW.Trod enc Try.prog w 0 (fun _ => true) true 43 v d ps) :
    ∃ (s : Sl) (acts : List DAct), v = s.v ∧ Arg w.heap 5 s (acts.flatMap DAct.cells) ∧ s.below w.heap.size ∧ ∀ a ∈ acts, (0 ≤ a.kind ∧ a.kind ≤ 255) ∧ (-9223372036854775808 ≤ a.n ∧ a.n ≤ 9223372036854775807) ∧ Arg w.heap 1 a.b (cB a.xs) := by
  have he : El enc Try.prog w 47 fun cs => ∃ a : DAct, cs = a.cells ∧ ((0 ≤ a.kind ∧ a.kind ≤ 255) ∧ (-9223372036854775808 ≤ a.n ∧ a.n ≤ 9223372036854775807) ∧ Arg w.heap 1 a.b (cB a.xs)) := by
    refine el_st Try.underlying47 fun cs hl hf => ?_
    have hl5 : cs.length = 5 := hl.trans (by kernel_rfl)
    match cs, hl5 with
    | [c0, c1, c2, c3, c4], _ =>
      obtain ⟨_, _, h0⟩ := hf 0 _ rfl
      obtain ⟨_, _, h1⟩ := hf 1 _ rfl
      obtain ⟨_, _, h2⟩ := hf 2 _ rfl
      obtain ⟨_, _, h3⟩ := hf 3 _ rfl
      obtain ⟨_, _, h4⟩ := hf 4 _ rfl
      obtain ⟨n0, e0, w0⟩ := el_int Try.underlying5 _ _ _ h0
      obtain ⟨s1, x1, e1, w1⟩ := el_bytes Try.underlying23 Try.underlying5 (by kernel_rfl) _ _ _ h1
      obtain ⟨n2, e2, w2⟩ := el_int Try.underlying3 _ _ _ h2
      obtain ⟨n3, e3, w3⟩ := el_int Try.underlying3 _ _ _ h3
      obtain ⟨n4, e4, w4⟩ := el_int Try.underlying5 _ _ _ h4
      have e0' : [c0] = [Value.int .u8 n0] := e0
      have e1' : [c1] = [s1.v] := e1
      have e2' : [c2] = [Value.int .i64 n2] := e2
      have e3' : [c3] = [Value.int .i64 n3] := e3
      have e4' : [c4] = [Value.int .u8 n4] := e4
      simp only [List.cons.injEq, and_true] at e0' e1' e2' e3' e4'
      subst e0' e1' e2' e3' e4'
      obtain ⟨y4, rfl⟩ := u8_cast w4
      exact ⟨⟨n0, s1, x1, n2, n3, y4⟩, rfl, wf_u8 w0, wf_bd w3, w1⟩
  obtain ⟨s, css, h1, _, h3, h4, h5⟩ := arg_sl (sz := 5) Try.underlying43 (by kernel_rfl) (by decide) he hval hd
  obtain ⟨acts, h6, h7, _⟩ := cells_of DAct.cells _ fun c hc => (h3 c hc).2
  exact ⟨s, acts, h1, h6 ▸ h4, h5, h7⟩
end
end Go.Proofs.Ytfafikomhbedbaa
