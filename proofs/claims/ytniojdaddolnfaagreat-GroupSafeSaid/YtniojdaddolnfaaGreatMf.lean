/-
  Several of the proof's texts in one: D1, V1, SA, Wa, Ha, Q, SG, F2, F3, SW, V2, H, V3, Wb, SH.
-/
import Derived.Test.YtniojdaddolnfaaGreatMb
import Derived.Test.YtniojdaddolnfaaGreatMe
import Derived.Test.YtniojdaddolnfaaGreatMc
import Derived.Test.YtniojdaddolnfaaGreatProg
import Derived.Laws.StructEq
import Derived.ChangeKeysEq
import Derived.Test.YtniojdaddolnfaaGreatMa
import Derived.SizedLaws
set_option linter.unusedVariables false
set_option linter.unusedSimpArgs false

/-
  Layer 4 (disk): contracts of the program's calls, over a row of things.
-/
namespace Go.Proofs.YtniojdaddolnfaaGreat
open Go

def flp (l : List UInt8) (i : Nat) (c : UInt8) : List UInt8 := match l[i]? with | some b => l.set i (b ^^^ c) | none => l
theorem flp_in {l : List UInt8} {i : Nat} (hi : i < l.length) (c : UInt8) : flp l i c = l.set i (l[i] ^^^ c) := by unfold flp; rw [List.getElem?_eq_getElem hi]
theorem flp_out {l : List UInt8} {i : Nat} (hi : l.length ≤ i) (c : UInt8) : flp l i c = l := by unfold flp; rw [List.getElem?_eq_none hi]
theorem flp_length (l : List UInt8) (i : Nat) (c : UInt8) : (flp l i c).length = l.length := by unfold flp; split <;> simp
theorem flp_app1 {a b : List UInt8} {i : Nat} (hi : i < a.length) (c : UInt8) : flp (a ++ b) i c = flp a i c ++ b := by
  rw [flp_in (by rw [List.length_append]; omega), flp_in hi, List.getElem_append_left hi, List.set_append_left _ _ hi]
theorem flp_app2 {a b : List UInt8} {i : Nat} (hi : a.length ≤ i) (c : UInt8) : flp (a ++ b) i c = a ++ flp b (i - a.length) c := by
  unfold flp
  rw [List.getElem?_append_right hi]
  split
  · rw [List.set_append_right _ _ hi]
  · rfl
theorem xor_byte (b c : UInt8) : bitV .xor .u8 (b.toNat : Int) (c.toNat : Int) = ((b ^^^ c).toNat : Int) := by
  rw [xor_u8' b.toNat_lt c.toNat_lt, UInt8.toNat_xor]
theorem xor_ne {b c : UInt8} (hc : c.toNat ≠ 0) : b ^^^ c ≠ b := by
  intro e
  have := congrArg UInt8.toNat e
  rw [UInt8.toNat_xor] at this
  have h3 : b.toNat ^^^ c.toNat = b.toNat ^^^ 0 := by rw [Nat.xor_zero]; exact this
  exact hc (xor_inj' h3)
/-- A disk: its bytes, how many are synced. -/
def diskL (d : Nat) (ty : TypeId) (s : Sl) (b : List UInt8) (n : Nat) : List Res := [.blk d ty [.slice s.a s.n s.c, .int .i64 (n : Int)], .own s 1 (cB b)]
def crashL (all : List UInt8) (k : Nat) (keep at_ : Int) (c : UInt8) : List UInt8 :=
  if 0 ≤ at_ ∧ at_ < (min keep.toNat (all.length - k) : Nat) then flp (all.take (k + min keep.toNat (all.length - k))) (k + at_.toNat) c else all.take (k + min keep.toNat (all.length - k))
section
variable {h0 h : Heap} {F : List Res} {d : Nat} {ty : TypeId} {s : Sl} {b : List UInt8} {n : Nat}
theorem At.nB {L : List Res} {s : Sl} {l : List UInt8} (H : At h0 h L) (i : Nat) (hi : L[i]? = some (.own s 1 (cB l))) : s.n = l.length := rd_b (H.rdo i hi)
/-- A byte that is written. -/
theorem stByte {L : List Res} {s : Sl} {l : List UInt8} {i : Int} {K : Heap → Prop} (H : At h0 h L) (m : Nat) (hm : L[m]? = some (.own s 1 (cB l))) (k : Nat) (hi : i = (k : Int)) (hk : k < l.length) (v : UInt8)
    (hK : ∀ h', At h0 h' (L.set m (.own s 1 (cB (l.set k v)))) → K h') : Ix s i 1 fun e => St h e (.int .u8 (v.toNat : Nat)) K := by
  have hn := H.nB m hm
  refine setO0 (H.own m hm) k hi (by omega) (by decide) fun h' o u _ => ?_
  rw [Nat.mul_one, cB_set] at o
  exact hK h' (H.turn m hm (r' := .own s 1 (cB (l.set k v))) u o fun g hg => .inl hg)
theorem disk_New_ok {L : List Res} {R : Option Addr → Heap → Prop} (H : At h0 h L) (hR : ∀ h' d ty, At h0 h' (diskL d ty ⟨none, 0, 0⟩ [] 0 ++ L) → R (some ⟨d, 0, none⟩) h') : C_disk_New h R := by
  refine A_disk_New ?_
  unfold S_disk_New
  exact allocAt (H.nil 1) fun h' d H => hR h' d _ H
theorem disk_Len_ok {R : Int → Heap → Prop} (H : At h0 h (diskL d ty s b n ++ F)) (hR : R (b.length : Int) h) : C_disk_Disk_Len (some ⟨d, 0, none⟩) h R := by
  refine A_disk_Disk_Len ?_
  unfold S_disk_Disk_Len
  have hn := H.nB 1 rfl
  rw [← hn] at hR
  repeat (first | with_reducible refine nn ?_ | with_reducible refine let_ ?_ | with_reducible refine brSome ?_ | with_reducible refine brF ?_ | with_reducible refine brT ?_ | ((with_reducible apply ldAt H 0); exact rfl; exact rfl) | ((with_reducible apply ldAt0 H 0); exact rfl; exact rfl) | ((with_reducible apply ldAt H 1); exact rfl; exact rfl) | ((with_reducible apply ldAt0 H 1); exact rfl; exact rfl) | ((with_reducible apply stAt H 0); exact rfl; exact rfl; intro h H) | ((with_reducible apply stAt0 H 0); exact rfl; exact rfl; intro h H) | ((with_reducible apply stAt H 1); exact rfl; exact rfl; intro h H) | ((with_reducible apply stAt0 H 1); exact rfl; exact rfl; intro h H) | ((with_reducible apply allocAt H); intro h b H) | ((with_reducible refine ⟨?_, ?_⟩); first | ((with_reducible apply ldAt H 0); exact rfl; exact rfl; exact rfl) | ((with_reducible apply ldAt0 H 0); exact rfl; exact rfl; exact rfl) | ((with_reducible apply ldAt H 1); exact rfl; exact rfl; exact rfl) | ((with_reducible apply ldAt0 H 1); exact rfl; exact rfl; exact rfl)))
  exact hR
theorem disk_Synced_ok {R : Int → Heap → Prop} (H : At h0 h (diskL d ty s b n ++ F)) (hR : R (n : Int) h) : C_disk_Disk_Synced (some ⟨d, 0, none⟩) h R := by
  refine A_disk_Disk_Synced ?_
  unfold S_disk_Disk_Synced
  repeat (first | with_reducible refine nn ?_ | with_reducible refine let_ ?_ | with_reducible refine brSome ?_ | with_reducible refine brF ?_ | with_reducible refine brT ?_ | ((with_reducible apply ldAt H 0); exact rfl; exact rfl) | ((with_reducible apply ldAt0 H 0); exact rfl; exact rfl) | ((with_reducible apply ldAt H 1); exact rfl; exact rfl) | ((with_reducible apply ldAt0 H 1); exact rfl; exact rfl) | ((with_reducible apply stAt H 0); exact rfl; exact rfl; intro h H) | ((with_reducible apply stAt0 H 0); exact rfl; exact rfl; intro h H) | ((with_reducible apply stAt H 1); exact rfl; exact rfl; intro h H) | ((with_reducible apply stAt0 H 1); exact rfl; exact rfl; intro h H) | ((with_reducible apply allocAt H); intro h b H) | ((with_reducible refine ⟨?_, ?_⟩); first | ((with_reducible apply ldAt H 0); exact rfl; exact rfl; exact rfl) | ((with_reducible apply ldAt0 H 0); exact rfl; exact rfl; exact rfl) | ((with_reducible apply ldAt H 1); exact rfl; exact rfl; exact rfl) | ((with_reducible apply ldAt0 H 1); exact rfl; exact rfl; exact rfl)))
  exact hR
theorem disk_Sync_ok {R : Int → Heap → Prop} (H : At h0 h (diskL d ty s b n ++ F)) (hR : ∀ h', At h0 h' (diskL d ty s b b.length ++ F) → R 0 h') : C_disk_Disk_Sync (some ⟨d, 0, none⟩) h R := by
  refine A_disk_Disk_Sync ?_
  unfold S_disk_Disk_Sync
  have hn := H.nB 1 rfl
  repeat (first | with_reducible refine nn ?_ | with_reducible refine let_ ?_ | with_reducible refine brSome ?_ | with_reducible refine brF ?_ | with_reducible refine brT ?_ | ((with_reducible apply ldAt H 0); exact rfl; exact rfl) | ((with_reducible apply ldAt0 H 0); exact rfl; exact rfl) | ((with_reducible apply ldAt H 1); exact rfl; exact rfl) | ((with_reducible apply ldAt0 H 1); exact rfl; exact rfl) | ((with_reducible apply stAt H 0); exact rfl; exact rfl; intro h H) | ((with_reducible apply stAt0 H 0); exact rfl; exact rfl; intro h H) | ((with_reducible apply stAt H 1); exact rfl; exact rfl; intro h H) | ((with_reducible apply stAt0 H 1); exact rfl; exact rfl; intro h H) | ((with_reducible apply allocAt H); intro h b H) | ((with_reducible refine ⟨?_, ?_⟩); first | ((with_reducible apply ldAt H 0); exact rfl; exact rfl; exact rfl) | ((with_reducible apply ldAt0 H 0); exact rfl; exact rfl; exact rfl) | ((with_reducible apply ldAt H 1); exact rfl; exact rfl; exact rfl) | ((with_reducible apply ldAt0 H 1); exact rfl; exact rfl; exact rfl)))
  refine hR _ ?_
  rw [← hn]
  exact H
theorem disk_Write_ok {x : Sl} {xs : List UInt8} {R : Int → Heap → Prop} (H : At h0 h (diskL d ty s b n ++ F)) (hx : RdS h 1 x (cB xs)) (hl : b.length ≤ 1048576) (hx2 : xs.length ≤ 1000000000000) (h1 : 1048576 < b.length + xs.length → R 7 h)
    (h2 : b.length + xs.length ≤ 1048576 → ∀ h' s', At h0 h' (diskL d ty s' (b ++ xs) n ++ F) → R 0 h') : C_disk_Disk_Write (some ⟨d, 0, none⟩) x h R := by
  refine A_disk_Disk_Write ?_
  unfold S_disk_Disk_Write
  have hn := H.nB 1 rfl
  have hxn := rd_b hx
  repeat (first | with_reducible refine nn ?_ | with_reducible refine let_ ?_ | with_reducible refine brSome ?_ | with_reducible refine brF ?_ | with_reducible refine brT ?_ | ((with_reducible apply ldAt H 0); exact rfl; exact rfl) | ((with_reducible apply ldAt0 H 0); exact rfl; exact rfl) | ((with_reducible apply ldAt H 1); exact rfl; exact rfl) | ((with_reducible apply ldAt0 H 1); exact rfl; exact rfl) | ((with_reducible apply stAt H 0); exact rfl; exact rfl; intro h H) | ((with_reducible apply stAt0 H 0); exact rfl; exact rfl; intro h H) | ((with_reducible apply stAt H 1); exact rfl; exact rfl; intro h H) | ((with_reducible apply stAt0 H 1); exact rfl; exact rfl; intro h H) | ((with_reducible apply allocAt H); intro h b H) | ((with_reducible refine ⟨?_, ?_⟩); first | ((with_reducible apply ldAt H 0); exact rfl; exact rfl; exact rfl) | ((with_reducible apply ldAt0 H 0); exact rfl; exact rfl; exact rfl) | ((with_reducible apply ldAt H 1); exact rfl; exact rfl; exact rfl) | ((with_reducible apply ldAt0 H 1); exact rfl; exact rfl; exact rfl)))
  rw [w64 (by omega) (by omega)]
  refine brD (fun hc => h1 (by omega)) fun hc => ?_
  repeat (first | with_reducible refine nn ?_ | with_reducible refine let_ ?_ | with_reducible refine brSome ?_ | with_reducible refine brF ?_ | with_reducible refine brT ?_ | ((with_reducible apply ldAt H 0); exact rfl; exact rfl) | ((with_reducible apply ldAt0 H 0); exact rfl; exact rfl) | ((with_reducible apply ldAt H 1); exact rfl; exact rfl) | ((with_reducible apply ldAt0 H 1); exact rfl; exact rfl) | ((with_reducible apply stAt H 0); exact rfl; exact rfl; intro h H) | ((with_reducible apply stAt0 H 0); exact rfl; exact rfl; intro h H) | ((with_reducible apply stAt H 1); exact rfl; exact rfl; intro h H) | ((with_reducible apply stAt0 H 1); exact rfl; exact rfl; intro h H) | ((with_reducible apply allocAt H); intro h b H) | ((with_reducible refine ⟨?_, ?_⟩); first | ((with_reducible apply ldAt H 0); exact rfl; exact rfl; exact rfl) | ((with_reducible apply ldAt0 H 0); exact rfl; exact rfl; exact rfl) | ((with_reducible apply ldAt H 1); exact rfl; exact rfl; exact rfl) | ((with_reducible apply ldAt0 H 1); exact rfl; exact rfl; exact rfl)))
  refine appB (H.own 1 rfl) hx (by omega) fun s' h' o' g' => ?_
  have H := H.turn 1 rfl (r' := .own s' 1 (cB (b ++ xs))) g'.upd o' g'.stp.grow
  repeat (first | with_reducible refine nn ?_ | with_reducible refine let_ ?_ | with_reducible refine brSome ?_ | with_reducible refine brF ?_ | with_reducible refine brT ?_ | ((with_reducible apply ldAt H 0); exact rfl; exact rfl) | ((with_reducible apply ldAt0 H 0); exact rfl; exact rfl) | ((with_reducible apply ldAt H 1); exact rfl; exact rfl) | ((with_reducible apply ldAt0 H 1); exact rfl; exact rfl) | ((with_reducible apply stAt H 0); exact rfl; exact rfl; intro h H) | ((with_reducible apply stAt0 H 0); exact rfl; exact rfl; intro h H) | ((with_reducible apply stAt H 1); exact rfl; exact rfl; intro h H) | ((with_reducible apply stAt0 H 1); exact rfl; exact rfl; intro h H) | ((with_reducible apply allocAt H); intro h b H) | ((with_reducible refine ⟨?_, ?_⟩); first | ((with_reducible apply ldAt H 0); exact rfl; exact rfl; exact rfl) | ((with_reducible apply ldAt0 H 0); exact rfl; exact rfl; exact rfl) | ((with_reducible apply ldAt H 1); exact rfl; exact rfl; exact rfl) | ((with_reducible apply ldAt0 H 1); exact rfl; exact rfl; exact rfl)))
  exact h2 (by omega) _ s' H
theorem disk_Bytes_ok {R : Sl → Heap → Prop} (H : At h0 h (diskL d ty s b n ++ F)) (hl : b.length ≤ 1048576) (hR : ∀ r h', Own h' 1 r (cB b) → r.from_ h.size → Ext h.size h h' → R r h') : C_disk_Disk_Bytes (some ⟨d, 0, none⟩) h R := by
  refine A_disk_Disk_Bytes ?_
  unfold S_disk_Disk_Bytes
  have H1 := H
  repeat (first | with_reducible refine nn ?_ | with_reducible refine let_ ?_ | with_reducible refine brSome ?_ | with_reducible refine brF ?_ | with_reducible refine brT ?_ | ((with_reducible apply ldAt H 0); exact rfl; exact rfl) | ((with_reducible apply ldAt0 H 0); exact rfl; exact rfl) | ((with_reducible apply ldAt H 1); exact rfl; exact rfl) | ((with_reducible apply ldAt0 H 1); exact rfl; exact rfl) | ((with_reducible apply stAt H 0); exact rfl; exact rfl; intro h H) | ((with_reducible apply stAt0 H 0); exact rfl; exact rfl; intro h H) | ((with_reducible apply stAt H 1); exact rfl; exact rfl; intro h H) | ((with_reducible apply stAt0 H 1); exact rfl; exact rfl; intro h H) | ((with_reducible apply allocAt H); intro h b H) | ((with_reducible refine ⟨?_, ?_⟩); first | ((with_reducible apply ldAt H 0); exact rfl; exact rfl; exact rfl) | ((with_reducible apply ldAt0 H 0); exact rfl; exact rfl; exact rfl) | ((with_reducible apply ldAt H 1); exact rfl; exact rfl; exact rfl) | ((with_reducible apply ldAt0 H 1); exact rfl; exact rfl; exact rfl)))
  exact bytes_Clone_ok (H1.rdo 1 rfl) (by omega) hR
theorem disk_Cut_ok {m : Int} {R : Int → Heap → Prop} (H : At h0 h (diskL d ty s b n ++ F)) (h1 : (m < 0 ∨ (b.length : Int) < m) → R 5 h) (h2 : ∀ k : Nat, m = k → k ≤ b.length → ∀ h' s', At h0 h' (diskL d ty s' (b.take k) k ++ F) → R 0 h') :
    C_disk_Disk_Cut (some ⟨d, 0, none⟩) m h R := by
  refine A_disk_Disk_Cut ?_
  unfold S_disk_Disk_Cut
  have hn := H.nB 1 rfl
  refine join0 (fun h' => h' = h ∧ 0 ≤ m ∧ m ≤ b.length) (fun _ h' hJ => ?_) ?_
  · obtain ⟨rfl, ha, hb⟩ := hJ
    obtain ⟨k, rfl⟩ : ∃ k : Nat, m = k := ⟨m.toNat, by omega⟩
    have ho := H.own 1 rfl
    have hsc := ho.2.1
    repeat (first | with_reducible refine nn ?_ | with_reducible refine let_ ?_ | with_reducible refine brSome ?_ | with_reducible refine brF ?_ | with_reducible refine brT ?_ | ((with_reducible apply ldAt H 0); exact rfl; exact rfl) | ((with_reducible apply ldAt0 H 0); exact rfl; exact rfl) | ((with_reducible apply ldAt H 1); exact rfl; exact rfl) | ((with_reducible apply ldAt0 H 1); exact rfl; exact rfl) | ((with_reducible apply stAt H 0); exact rfl; exact rfl; intro h H) | ((with_reducible apply stAt0 H 0); exact rfl; exact rfl; intro h H) | ((with_reducible apply stAt H 1); exact rfl; exact rfl; intro h H) | ((with_reducible apply stAt0 H 1); exact rfl; exact rfl; intro h H) | ((with_reducible apply allocAt H); intro h b H) | ((with_reducible refine ⟨?_, ?_⟩); first | ((with_reducible apply ldAt H 0); exact rfl; exact rfl; exact rfl) | ((with_reducible apply ldAt0 H 0); exact rfl; exact rfl; exact rfl) | ((with_reducible apply ldAt H 1); exact rfl; exact rfl; exact rfl) | ((with_reducible apply ldAt0 H 1); exact rfl; exact rfl; exact rfl)))
    refine cutBO ho 0 k s.c lo0 (hii rfl) (.inl ⟨rfl, rfl⟩) (by omega) (by omega) (by omega) (Nat.le_refl _) fun s' o' n' c' b' => ?_
    rw [List.drop_zero, Nat.sub_zero] at o'
    have H := H.as_ 1 rfl (.own s' 1 (cB (b.take k))) o' fun g hg => by rw [Res.fp, ← b']; exact hg
    repeat (first | with_reducible refine nn ?_ | with_reducible refine let_ ?_ | with_reducible refine brSome ?_ | with_reducible refine brF ?_ | with_reducible refine brT ?_ | ((with_reducible apply ldAt H 0); exact rfl; exact rfl) | ((with_reducible apply ldAt0 H 0); exact rfl; exact rfl) | ((with_reducible apply ldAt H 1); exact rfl; exact rfl) | ((with_reducible apply ldAt0 H 1); exact rfl; exact rfl) | ((with_reducible apply stAt H 0); exact rfl; exact rfl; intro h H) | ((with_reducible apply stAt0 H 0); exact rfl; exact rfl; intro h H) | ((with_reducible apply stAt H 1); exact rfl; exact rfl; intro h H) | ((with_reducible apply stAt0 H 1); exact rfl; exact rfl; intro h H) | ((with_reducible apply allocAt H); intro h b H) | ((with_reducible refine ⟨?_, ?_⟩); first | ((with_reducible apply ldAt H 0); exact rfl; exact rfl; exact rfl) | ((with_reducible apply ldAt0 H 0); exact rfl; exact rfl; exact rfl) | ((with_reducible apply ldAt H 1); exact rfl; exact rfl; exact rfl) | ((with_reducible apply ldAt0 H 1); exact rfl; exact rfl; exact rfl)))
    refine disk_Sync_ok (s := s') H fun h' H' => h2 k rfl (by omega) h' s' ?_
    have e : (b.take k).length = k := by rw [List.length_take]; omega
    rw [e] at H'; exact H'
  · refine brF (brD (fun hc => h1 (.inl hc)) fun hc => ?_)
    repeat (first | with_reducible refine nn ?_ | with_reducible refine let_ ?_ | with_reducible refine brSome ?_ | with_reducible refine brF ?_ | with_reducible refine brT ?_ | ((with_reducible apply ldAt H 0); exact rfl; exact rfl) | ((with_reducible apply ldAt0 H 0); exact rfl; exact rfl) | ((with_reducible apply ldAt H 1); exact rfl; exact rfl) | ((with_reducible apply ldAt0 H 1); exact rfl; exact rfl) | ((with_reducible apply stAt H 0); exact rfl; exact rfl; intro h H) | ((with_reducible apply stAt0 H 0); exact rfl; exact rfl; intro h H) | ((with_reducible apply stAt H 1); exact rfl; exact rfl; intro h H) | ((with_reducible apply stAt0 H 1); exact rfl; exact rfl; intro h H) | ((with_reducible apply allocAt H); intro h b H) | ((with_reducible refine ⟨?_, ?_⟩); first | ((with_reducible apply ldAt H 0); exact rfl; exact rfl; exact rfl) | ((with_reducible apply ldAt0 H 0); exact rfl; exact rfl; exact rfl) | ((with_reducible apply ldAt H 1); exact rfl; exact rfl; exact rfl) | ((with_reducible apply ldAt0 H 1); exact rfl; exact rfl; exact rfl)))
    exact brD (fun hc => h1 (.inr (by omega))) fun hc => ⟨rfl, by omega, by omega⟩
theorem disk_Crash_ok {keep at_ by_ : Int} {c : UInt8} {R : Int → Heap → Prop} (H : At h0 h (diskL d ty s b n ++ F)) (hby : by_ = (c.toNat : Int)) (hnb : n ≤ b.length) (hl : b.length ≤ 1048576)
    (hR : ∀ h' s', At h0 h' (diskL d ty s' (crashL b n keep at_ c) n ++ F) → R 0 h') : C_disk_Disk_Crash (some ⟨d, 0, none⟩) keep at_ by_ h R := by
  refine A_disk_Disk_Crash ?_
  unfold S_disk_Disk_Crash
  subst hby
  have ho := H.own 1 rfl
  have hn := H.nB 1 rfl
  have hsc := ho.2.1
  unfold crashL at hR
  refine brSome (nn (ldAt0 H 0 rfl s rfl (nn (ldAt H 0 rfl (n : Int) rfl ?_))))
  have e1 : (if (IntKind.i64.wrap ((s.n : Int) - n)) < (if 0 > keep then 0 else keep) then IntKind.i64.wrap ((s.n : Int) - n) else if 0 > keep then 0 else keep : Int) = ((min keep.toNat (b.length - n) : Nat) : Int) := by
    rw [w64 (by omega) (by omega)]; split <;> split <;> omega
  rw [e1]
  generalize hkp : min keep.toNat (b.length - n) = kp at *
  have hkp' : n + kp ≤ b.length := by omega
  repeat (first | with_reducible refine nn ?_ | with_reducible refine let_ ?_ | with_reducible refine brSome ?_ | with_reducible refine brF ?_ | with_reducible refine brT ?_ | ((with_reducible apply ldAt H 0); exact rfl; exact rfl) | ((with_reducible apply ldAt0 H 0); exact rfl; exact rfl) | ((with_reducible apply ldAt H 1); exact rfl; exact rfl) | ((with_reducible apply ldAt0 H 1); exact rfl; exact rfl) | ((with_reducible apply stAt H 0); exact rfl; exact rfl; intro h H) | ((with_reducible apply stAt0 H 0); exact rfl; exact rfl; intro h H) | ((with_reducible apply stAt H 1); exact rfl; exact rfl; intro h H) | ((with_reducible apply stAt0 H 1); exact rfl; exact rfl; intro h H) | ((with_reducible apply allocAt H); intro h b H) | ((with_reducible refine ⟨?_, ?_⟩); first | ((with_reducible apply ldAt H 0); exact rfl; exact rfl; exact rfl) | ((with_reducible apply ldAt0 H 0); exact rfl; exact rfl; exact rfl) | ((with_reducible apply ldAt H 1); exact rfl; exact rfl; exact rfl) | ((with_reducible apply ldAt0 H 1); exact rfl; exact rfl; exact rfl)))
  rw [w64 (by omega) (by omega)]
  refine cutBO ho 0 (n + kp) s.c lo0 (hii (by omega)) (.inl ⟨rfl, rfl⟩) (by omega) (by omega) (by omega) (Nat.le_refl _) fun s' o' n' c' b' => ?_
  rw [List.drop_zero, Nat.sub_zero] at o'
  have H := H.as_ 1 rfl (.own s' 1 (cB (b.take (n + kp)))) o' fun g hg => by rw [Res.fp, ← b']; exact hg
  repeat (first | with_reducible refine nn ?_ | with_reducible refine let_ ?_ | with_reducible refine brSome ?_ | with_reducible refine brF ?_ | with_reducible refine brT ?_ | ((with_reducible apply ldAt H 0); exact rfl; exact rfl) | ((with_reducible apply ldAt0 H 0); exact rfl; exact rfl) | ((with_reducible apply ldAt H 1); exact rfl; exact rfl) | ((with_reducible apply ldAt0 H 1); exact rfl; exact rfl) | ((with_reducible apply stAt H 0); exact rfl; exact rfl; intro h H) | ((with_reducible apply stAt0 H 0); exact rfl; exact rfl; intro h H) | ((with_reducible apply stAt H 1); exact rfl; exact rfl; intro h H) | ((with_reducible apply stAt0 H 1); exact rfl; exact rfl; intro h H) | ((with_reducible apply allocAt H); intro h b H) | ((with_reducible refine ⟨?_, ?_⟩); first | ((with_reducible apply ldAt H 0); exact rfl; exact rfl; exact rfl) | ((with_reducible apply ldAt0 H 0); exact rfl; exact rfl; exact rfl) | ((with_reducible apply ldAt H 1); exact rfl; exact rfl; exact rfl) | ((with_reducible apply ldAt0 H 1); exact rfl; exact rfl; exact rfl)))
  have hl3 : (b.take (n + kp)).length = n + kp := by rw [List.length_take]; omega
  refine brD (fun ha => brD (fun hb => ?_) fun hb => ?_) fun ha => ?_
  · rw [if_pos ⟨ha, hb⟩] at hR
    repeat (first | with_reducible refine nn ?_ | with_reducible refine let_ ?_ | with_reducible refine brSome ?_ | with_reducible refine brF ?_ | with_reducible refine brT ?_ | ((with_reducible apply ldAt H 0); exact rfl; exact rfl) | ((with_reducible apply ldAt0 H 0); exact rfl; exact rfl) | ((with_reducible apply ldAt H 1); exact rfl; exact rfl) | ((with_reducible apply ldAt0 H 1); exact rfl; exact rfl) | ((with_reducible apply stAt H 0); exact rfl; exact rfl; intro h H) | ((with_reducible apply stAt0 H 0); exact rfl; exact rfl; intro h H) | ((with_reducible apply stAt H 1); exact rfl; exact rfl; intro h H) | ((with_reducible apply stAt0 H 1); exact rfl; exact rfl; intro h H) | ((with_reducible apply allocAt H); intro h b H) | ((with_reducible refine ⟨?_, ?_⟩); first | ((with_reducible apply ldAt H 0); exact rfl; exact rfl; exact rfl) | ((with_reducible apply ldAt0 H 0); exact rfl; exact rfl; exact rfl) | ((with_reducible apply ldAt H 1); exact rfl; exact rfl; exact rfl) | ((with_reducible apply ldAt0 H 1); exact rfl; exact rfl; exact rfl)))
    rw [w64 (by omega) (by omega)]
    have hk2 : n + at_.toNat < (b.take (n + kp)).length := by omega
    refine ixcB (H.rdo 1 rfl) (n + at_.toNat) (by omega) hk2 ?_
    rw [xor_byte]
    refine stByte H 1 rfl (n + at_.toNat) (by omega) hk2 _ fun h' H' => hR h' s' ?_
    rw [flp_in hk2]; exact H'
  · rw [if_neg (by omega)] at hR; exact hR _ s' H
  · rw [if_neg (by omega)] at hR; exact hR _ s' H
end
end Go.Proofs.YtniojdaddolnfaaGreat

/-
  Layer 5 (wal), over plain lists: what bytes tell, what a crash and a spoilt byte leave.
-/
namespace Go.Proofs.YtniojdaddolnfaaGreat

structure WRec where
  kind : UInt8
  data : List UInt8
def WRec.ok (r : WRec) : Prop := r.kind ≠ 0 ∧ r.data.length < 4096
def recM (r : WRec) : List UInt8 := frameM (r.kind :: r.data)
def recsM (l : List WRec) : List UInt8 := l.flatMap recM
theorem recM_length (r : WRec) : (recM r).length = r.data.length + 9 := by unfold recM; rw [frameM_length]; simp
theorem recsM_cons (r : WRec) (l : List WRec) : recsM (r :: l) = recM r ++ recsM l := List.flatMap_cons ..
theorem recsM_app (a b : List WRec) : recsM (a ++ b) = recsM a ++ recsM b := List.flatMap_append ..
/-- Reading, from an offset on. -/
def walM (l : List UInt8) : Nat → List WRec → Nat → List WRec × Nat × Int
  | 0, out, a => (out, a, 0)
  | f + 1, out, a =>
    if a < l.length then
      if (takeM (l.drop a)).2.2 ≠ 0 then (out, a, (takeM (l.drop a)).2.2)
      else match (takeM (l.drop a)).1 with
        | [] => (out, a, 2)
        | k :: d => if k = 0 then (out, a, 2) else walM l f (out ++ [⟨k, d⟩]) (a + (takeM (l.drop a)).2.1)
    else (out, a, 0)
def walR (l : List UInt8) : List WRec × Nat × Int := walM l (l.length + 1) [] 0
/-- The program's way: all frames first. -/
def payM : List (List UInt8) → List WRec → Nat → Int → List WRec × Nat × Int
  | [], out, a, e => (out, a, e)
  | p :: ps, out, a, e => match p with
    | [] => (out, a, 2)
    | k :: d => if k = 0 then (out, a, 2) else payM ps (out ++ [⟨k, d⟩]) (a + (d.length + 1 + 8)) e
theorem allM_acc (l : List UInt8) : ∀ (f : Nat) (ps : List (List UInt8)) (a : Nat), ∃ qs, (allM l f ps a).1 = ps ++ qs ∧ (allM l f ps a).2 = (allM l f [] a).2 ∧ (allM l f [] a).1 = qs
  | 0, ps, a => ⟨[], by simp [allM], rfl, rfl⟩
  | f + 1, ps, a => by
    unfold allM
    split
    · split
      · exact ⟨[], by simp, rfl, rfl⟩
      · obtain ⟨qs, h1, h2, h3⟩ := allM_acc l f (ps ++ [(takeM (l.drop a)).1]) (a + (takeM (l.drop a)).2.1)
        obtain ⟨qs', h1', h2', h3'⟩ := allM_acc l f ([] ++ [(takeM (l.drop a)).1]) (a + (takeM (l.drop a)).2.1)
        have e : qs = qs' := h3.symm.trans h3'
        subst e
        exact ⟨(takeM (l.drop a)).1 :: qs, by rw [h1]; simp, by rw [h2, h2'], by rw [h1']; simp⟩
    · exact ⟨[], by simp, rfl, rfl⟩
theorem pay_wal (l : List UInt8) : ∀ (f a : Nat) (out : List WRec), payM (allM l f [] a).1 out a (allM l f [] a).2.2 = walM l f out a
  | 0, a, out => rfl
  | f + 1, a, out => by
    unfold walM
    rw [show allM l (f + 1) [] a = if a < l.length then (if (takeM (l.drop a)).2.2 ≠ 0 then ([], a, (takeM (l.drop a)).2.2) else allM l f ([] ++ [(takeM (l.drop a)).1]) (a + (takeM (l.drop a)).2.1)) else ([], a, 0) from rfl]
    split
    · split
      · rfl
      · rename_i hz
        obtain ⟨_, _, t3, _⟩ := takeM_ok (Classical.not_not.1 hz)
        obtain ⟨qs, h1, h2, h3⟩ := allM_acc l f ([] ++ [(takeM (l.drop a)).1]) (a + (takeM (l.drop a)).2.1)
        rw [h1, h2]
        have ih := fun out => pay_wal l f (a + (takeM (l.drop a)).2.1) out
        simp only [List.nil_append, List.singleton_append, payM]
        split
        · rfl
        · rename_i k d hd
          split
          · rfl
          · rw [← ih, h3]
            rw [hd] at t3
            simp only [List.length_cons] at t3
            rw [show d.length + 1 + 8 = (takeM (l.drop a)).2.1 by omega]
    · rfl
theorem walM_step {l : List UInt8} {f a : Nat} {out : List WRec} (hf : l.length < f + a) (ha : a < l.length) : walM l f out a =
    if (takeM (l.drop a)).2.2 ≠ 0 then (out, a, (takeM (l.drop a)).2.2)
      else match (takeM (l.drop a)).1 with
        | [] => (out, a, 2)
        | k :: d => if k = 0 then (out, a, 2) else walM l (f - 1) (out ++ [⟨k, d⟩]) (a + (takeM (l.drop a)).2.1) := by
  obtain ⟨f, rfl⟩ : ∃ g, f = g + 1 := ⟨f - 1, by omega⟩
  rw [walM, if_pos ha]; rfl
theorem walM_done {l : List UInt8} {f a : Nat} {out : List WRec} (ha : ¬ a < l.length) : walM l f out a = (out, a, 0) := by
  cases f with
  | zero => rfl
  | succ f => rw [walM, if_neg ha]
/-- Whole records are read, whatever stands behind. -/
theorem walM_recs (ahead : List UInt8) : ∀ (rs : List WRec) (rest : List UInt8) (f : Nat) (out : List WRec) (a : Nat), (∀ r ∈ rs, r.ok) → a = ahead.length → (ahead ++ recsM rs ++ rest).length < f + a →
    ∃ f', (ahead ++ recsM rs ++ rest).length < f' + (a + (recsM rs).length) ∧ walM (ahead ++ recsM rs ++ rest) f out a = walM (ahead ++ recsM rs ++ rest) f' (out ++ rs) (a + (recsM rs).length) := by
  intro rs
  induction rs generalizing ahead with
  | nil => intro rest f out a _ ha hf; exact ⟨f, by simpa [recsM] using hf, by simp [recsM]⟩
  | cons r rs ih =>
    intro rest f out a hok ha hf
    have hr := hok r (List.mem_cons_self ..)
    have hl := recM_length r
    have e : ahead ++ recsM (r :: rs) ++ rest = ahead ++ recM r ++ recsM rs ++ rest := by rw [recsM_cons]; simp
    have ed : (ahead ++ recM r ++ recsM rs ++ rest).drop a = recM r ++ (recsM rs ++ rest) := by
      rw [ha]; simp
    have et : takeM (recM r ++ (recsM rs ++ rest)) = (r.kind :: r.data, r.data.length + 9, 0) := by
      have := takeM_frame (r.kind :: r.data) (recsM rs ++ rest) (by have := hr.2; simp; omega)
      exact this
    rw [e] at hf ⊢
    have hla : a < (ahead ++ recM r ++ recsM rs ++ rest).length := by simp only [List.length_append]; omega
    obtain ⟨f', h1, h2⟩ := ih (ahead ++ recM r) rest (f - 1) (out ++ [r]) (a + (r.data.length + 9)) (fun x hx => hok x (List.mem_cons_of_mem _ hx)) (by rw [List.length_append]; omega) (by omega)
    have el : a + (recsM (r :: rs)).length = a + (r.data.length + 9) + (recsM rs).length := by rw [recsM_cons, List.length_append]; omega
    rw [el]
    refine ⟨f', h1, ?_⟩
    rw [walM_step hf hla, ed, et]
    simp only [ne_eq, not_true_eq_false, if_false]
    rw [if_neg hr.1, h2]
    simp
/-- A part of a frame, with a byte that may be another one. -/
theorem takeM_part_flp (p : List UInt8) (n i : Nat) (c : UInt8) (h : p.length ≤ 4096) (hn : n < p.length + 8) : (takeM (flp ((frameM p).take n) i c)).2.2 ≠ 0 := by
  by_cases h4 : n < 4
  · rw [takeM_short' (by rw [flp_length, List.length_take]; omega)]; decide
  · have hi := hi_nat (p := p) (by omega)
    have lo := lo_nat p
    obtain ⟨m, rfl⟩ : ∃ m, n = m + 4 := ⟨n - 4, by omega⟩
    have e : (frameM p).take (m + 4) = [hiB p, loB p, 255 - hiB p, 255 - loB p] ++ (p ++ le4 (crcOf p)).take m := rfl
    rw [e]
    by_cases hi4 : i < 4
    · rw [flp_app1 (by exact hi4)]
      have s1 := sub255 (hiB p)
      have s2 := sub255 (loB p)
      have l1 := (hiB p).toNat_lt
      have l2 := (loB p).toNat_lt
      by_cases hc : c.toNat = 0
      · have hc0 : c = 0 := UInt8.toNat_inj.1 hc
        have ef : flp [hiB p, loB p, 255 - hiB p, 255 - loB p] i c = [hiB p, loB p, 255 - hiB p, 255 - loB p] := by
          subst hc0
          unfold flp
          have : i = 0 ∨ i = 1 ∨ i = 2 ∨ i = 3 := by omega
          rcases this with rfl | rfl | rfl | rfl <;> simp
        rw [ef]
        show (takeM (hiB p :: loB p :: (255 - hiB p) :: (255 - loB p) :: (p ++ le4 (crcOf p)).take m)).2.2 ≠ 0
        rw [takeM_head p _ h, if_pos (by rw [List.length_take, List.length_append, le4_length]; omega)]; decide
      · have ne : ∀ x : UInt8, (x ^^^ c).toNat ≠ x.toNat := fun x e => xor_ne hc (UInt8.toNat_inj.1 e)
        have := ne (hiB p); have := ne (loB p); have := ne (255 - hiB p); have := ne (255 - loB p)
        have : i = 0 ∨ i = 1 ∨ i = 2 ∨ i = 3 := by omega
        rcases this with rfl | rfl | rfl | rfl
        · show (takeM ((hiB p ^^^ c) :: loB p :: (255 - hiB p) :: (255 - loB p) :: (p ++ le4 (crcOf p)).take m)).2.2 ≠ 0
          rw [takeM_cons, if_neg (by omega)]; decide
        · show (takeM (hiB p :: (loB p ^^^ c) :: (255 - hiB p) :: (255 - loB p) :: (p ++ le4 (crcOf p)).take m)).2.2 ≠ 0
          rw [takeM_cons, if_neg (by omega)]; decide
        · show (takeM (hiB p :: loB p :: ((255 - hiB p) ^^^ c) :: (255 - loB p) :: (p ++ le4 (crcOf p)).take m)).2.2 ≠ 0
          rw [takeM_cons, if_neg (by omega)]; decide
        · show (takeM (hiB p :: loB p :: (255 - hiB p) :: ((255 - loB p) ^^^ c) :: (p ++ le4 (crcOf p)).take m)).2.2 ≠ 0
          rw [takeM_cons, if_neg (by omega)]; decide
    · rw [flp_app2 (by show 4 ≤ i; omega)]
      show (takeM (hiB p :: loB p :: (255 - hiB p) :: (255 - loB p) :: flp ((p ++ le4 (crcOf p)).take m) (i - 4) c)).2.2 ≠ 0
      rw [takeM_head p _ h, if_pos (by rw [flp_length, List.length_take, List.length_append, le4_length]; omega)]; decide
/-- What a crash leaves of records: some of the first ones are read, then it stops. -/
theorem walM_crash (ahead : List UInt8) : ∀ (ts : List WRec) (keep i : Nat) (c : UInt8) (f : Nat) (out : List WRec), (∀ r ∈ ts, r.ok) → (ahead ++ flp ((recsM ts).take keep) i c).length < f + ahead.length →
    ∃ j e, j ≤ ts.length ∧ walM (ahead ++ flp ((recsM ts).take keep) i c) f out ahead.length = (out ++ ts.take j, ahead.length + (recsM (ts.take j)).length, e) ∧ (flp ((recsM ts).take keep) i c).take (recsM (ts.take j)).length = recsM (ts.take j) := by
  intro ts
  induction ts generalizing ahead with
  | nil =>
    intro keep i c f out _ _
    refine ⟨0, 0, Nat.zero_le _, ?_, rfl⟩
    have e : flp ((recsM []).take keep) i c = [] := by simp [recsM, flp]
    rw [e, List.append_nil, walM_done (by omega)]
    simp [recsM]
  | cons r ts ih =>
    intro keep i c f out hok hf
    have hr := hok r (List.mem_cons_self ..)
    have hl := recM_length r
    have stop : ∀ e : Int, e ≠ 0 → (takeM (flp ((recsM (r :: ts)).take keep) i c)).2.2 = e → ∃ j e, j ≤ (r :: ts).length ∧ walM (ahead ++ flp ((recsM (r :: ts)).take keep) i c) f out ahead.length = (out ++ (r :: ts).take j, ahead.length + (recsM ((r :: ts).take j)).length, e) ∧ (flp ((recsM (r :: ts)).take keep) i c).take (recsM ((r :: ts).take j)).length = recsM ((r :: ts).take j) := by
      intro e he ht
      by_cases hn : ahead.length < (ahead ++ flp ((recsM (r :: ts)).take keep) i c).length
      · refine ⟨0, e, Nat.zero_le _, ?_, rfl⟩
        rw [walM_step hf hn, List.drop_left, ht, if_pos he]
        simp [recsM]
      · refine ⟨0, 0, Nat.zero_le _, ?_, rfl⟩
        rw [walM_done hn]
        simp [recsM]
    by_cases hk : keep < (recM r).length
    · have e : (recsM (r :: ts)).take keep = (recM r).take keep := by rw [recsM_cons, List.take_append_of_le_length (by omega)]
      refine stop _ ?_ rfl
      rw [e]
      exact takeM_part_flp (r.kind :: r.data) keep i c (by have := hr.2; simp; omega) (by simp; omega)
    · have e : (recsM (r :: ts)).take keep = recM r ++ (recsM ts).take (keep - (recM r).length) := by
        rw [recsM_cons, List.take_append, List.take_of_length_le (by omega)]
      have go : flp ((recsM (r :: ts)).take keep) i c = recM r ++ flp ((recsM ts).take (keep - (recM r).length)) (i - (recM r).length) c ∨ (takeM (flp ((recsM (r :: ts)).take keep) i c)).2.2 ≠ 0 ∨ flp ((recsM (r :: ts)).take keep) i c = recM r ++ flp ((recsM ts).take (keep - (recM r).length)) ((recsM ts).length + 1) c := by
        rw [e]
        by_cases hi : i < (recM r).length
        · right
          rw [flp_app1 hi]
          by_cases hc : c.toNat = 0
          · right
            have hc0 : c = 0 := UInt8.toNat_inj.1 hc
            subst hc0
            rw [flp_in hi, flp_out (l := (recsM ts).take _) (by rw [List.length_take]; omega)]
            simp
          · left
            rw [flp_in hi]
            refine takeM_turn (r.kind :: r.data) _ i _ (by have := hr.2; simp; omega) hi ?_
            show (recM r)[i]? ≠ _
            rw [List.getElem?_eq_getElem hi]
            exact fun e => xor_ne hc (Option.some.inj e).symm
        · left
          exact flp_app2 (by omega) c
      have cont : ∀ i', flp ((recsM (r :: ts)).take keep) i c = recM r ++ flp ((recsM ts).take (keep - (recM r).length)) i' c → ∃ j e, j ≤ (r :: ts).length ∧ walM (ahead ++ flp ((recsM (r :: ts)).take keep) i c) f out ahead.length = (out ++ (r :: ts).take j, ahead.length + (recsM ((r :: ts).take j)).length, e) ∧ (flp ((recsM (r :: ts)).take keep) i c).take (recsM ((r :: ts).take j)).length = recsM ((r :: ts).take j) := by
        intro i' he
        rw [he] at hf ⊢
        have et : takeM (recM r ++ flp ((recsM ts).take (keep - (recM r).length)) i' c) = (r.kind :: r.data, r.data.length + 9, 0) := takeM_frame (r.kind :: r.data) _ (by have := hr.2; simp; omega)
        have hla : ahead.length < (ahead ++ (recM r ++ flp ((recsM ts).take (keep - (recM r).length)) i' c)).length := by simp only [List.length_append]; omega
        obtain ⟨j, e', hj, h2, h3⟩ := ih (ahead ++ recM r) (keep - (recM r).length) i' c (f - 1) (out ++ [r]) (fun x hx => hok x (List.mem_cons_of_mem _ hx)) (by simp only [List.length_append] at hf ⊢; omega)
        refine ⟨j + 1, e', by simp; omega, ?_, by rw [List.take_succ_cons, recsM_cons, List.length_append, List.take_length_add_append, h3]⟩
        rw [walM_step hf hla, List.drop_left, et]
        simp only [ne_eq, not_true_eq_false, if_false]
        rw [if_neg hr.1]
        rw [List.append_assoc] at h2
        rw [show ahead.length + (r.data.length + 9) = (ahead ++ recM r).length by rw [List.length_append]; omega, h2]
        simp only [List.take_succ_cons, recsM_cons, List.length_append, List.append_assoc, List.singleton_append, Nat.add_assoc]
      rcases go with h1 | h1 | h1
      · exact cont _ h1
      · exact stop _ h1 rfl
      · exact cont _ h1
theorem walM_le (l : List UInt8) : ∀ (f : Nat) (out : List WRec) (a : Nat), a ≤ l.length → a ≤ (walM l f out a).2.1 ∧ (walM l f out a).2.1 ≤ l.length ∧ (walM l f out a).1.length + a ≤ out.length + (walM l f out a).2.1
  | 0, out, a, h => ⟨Nat.le_refl _, h, Nat.le_refl _⟩
  | f + 1, out, a, h => by
    unfold walM
    split
    · split
      · exact ⟨Nat.le_refl _, h, Nat.le_refl _⟩
      · rename_i hz
        obtain ⟨t1, t2, t3, t4⟩ := takeM_ok (Classical.not_not.1 hz)
        rw [List.length_drop] at t2
        split
        · exact ⟨Nat.le_refl _, h, Nat.le_refl _⟩
        · split
          · exact ⟨Nat.le_refl _, h, Nat.le_refl _⟩
          · obtain ⟨h1, h2, h3⟩ := walM_le l f (out ++ [⟨_, _⟩]) (a + (takeM (l.drop a)).2.1) (by omega)
            rw [List.length_append] at h3
            exact ⟨by omega, h2, by simp only [List.length_cons, List.length_nil] at h3; omega⟩
    · exact ⟨Nat.le_refl _, h, Nat.le_refl _⟩
/-- A spoilt byte stops the reading ahead of it. -/
theorem walM_spoilt (ahead : List UInt8) : ∀ (rs : List WRec) (k : Nat) (c : UInt8) (rest : List UInt8) (f : Nat) (out : List WRec), (∀ r ∈ rs, r.ok) → k < (recsM rs).length → c.toNat ≠ 0 → (ahead ++ flp (recsM rs) k c ++ rest).length < f + ahead.length →
    (walM (ahead ++ flp (recsM rs) k c ++ rest) f out ahead.length).2.1 ≤ ahead.length + k := by
  intro rs
  induction rs generalizing ahead with
  | nil => intro k c rest f out _ hk; simp [recsM] at hk
  | cons r rs ih =>
    intro k c rest f out hok hk hc hf
    have hr := hok r (List.mem_cons_self ..)
    have hl := recM_length r
    have hla : ahead.length < (ahead ++ flp (recsM (r :: rs)) k c ++ rest).length := by
      simp only [List.length_append, flp_length, recsM_cons]; omega
    by_cases hkr : k < (recM r).length
    · rw [walM_step hf hla, if_pos]
      · exact Nat.le_add_right _ _
      · rw [List.append_assoc, List.drop_left, recsM_cons, flp_app1 hkr, flp_in hkr, List.append_assoc]
        refine takeM_turn (r.kind :: r.data) _ k _ (by have := hr.2; simp; omega) hkr ?_
        show (recM r)[k]? ≠ _
        rw [List.getElem?_eq_getElem hkr]
        exact fun e => xor_ne hc (Option.some.inj e).symm
    · have e : ahead ++ flp (recsM (r :: rs)) k c ++ rest = (ahead ++ recM r) ++ flp (recsM rs) (k - (recM r).length) c ++ rest := by rw [recsM_cons, flp_app2 (by omega)]; simp
      rw [e] at hf hla ⊢
      have et : takeM (recM r ++ (flp (recsM rs) (k - (recM r).length) c ++ rest)) = (r.kind :: r.data, r.data.length + 9, 0) := takeM_frame (r.kind :: r.data) _ (by have := hr.2; simp; omega)
      have hk2 : k - (recM r).length < (recsM rs).length := by rw [recsM_cons, List.length_append] at hk; omega
      have := ih (ahead ++ recM r) (k - (recM r).length) c rest (f - 1) (out ++ [r]) (fun x hx => hok x (List.mem_cons_of_mem _ hx)) hk2 hc (by simp only [List.length_append] at hf ⊢; omega)
      rw [walM_step hf hla]
      have ed : (ahead ++ recM r ++ flp (recsM rs) (k - (recM r).length) c ++ rest).drop ahead.length = recM r ++ (flp (recsM rs) (k - (recM r).length) c ++ rest) := by simp
      rw [ed, et]
      simp only [ne_eq, not_true_eq_false, if_false]
      rw [if_neg hr.1]
      rw [List.length_append] at this
      rw [show ahead.length + (r.data.length + 9) = ahead.length + (recM r).length by omega]
      show (walM _ (f - 1) (out ++ [r]) (ahead.length + (recM r).length)).2.1 ≤ ahead.length + k
      omega
end Go.Proofs.YtniojdaddolnfaaGreat

/- Printed by a program: what each function asks of the heap, that this is the reading of its code, and what follows for a call. -/
set_option maxRecDepth 1000000
namespace Go.Proofs.YtniojdaddolnfaaGreat
open Go

/-- word.Read -/
def S_word_Read (b : Sl) (h : Heap) (R : Option Addr → Heap → Prop) : Prop :=
  Alloc h (.cells #[.slice b.a b.n b.c, .bool false] 132) fun p h_ =>
  R (some p) h_
theorem E_word_Read (b : Sl) (h : Heap) (R : Option Addr → Heap → Prop) :
    VF Tryz.prog [] Tryz.f61 [.slice b.a b.n b.c] h [.one .ptr] R = S_word_Read b h R := by kernel_rfl
theorem A_word_Read {b : Sl} {h : Heap} {R : Option Addr → Heap → Prop} (hs : S_word_Read b h R) : C_word_Read b h R :=
  use_ Tryz.func61 (by kernel_rfl) (E_word_Read b h R) hs

/-- (*word.Reader).Done -/
def S_word_Reader_Done (r : Option Addr) (h : Heap) (R : Bool → Heap → Prop) : Prop :=
  C_word_Reader_Fail r h fun (r1 : Bool) h_ =>
  (bif !r1 then
    Nn r fun p =>
    Ld .sl h_ p fun (b : Sl) =>
    R ((b.n : Int) == 0) h_
  else
    R false h_
  )
theorem E_word_Reader_Done (r : Option Addr) (h : Heap) (R : Bool → Heap → Prop) :
    VF Tryz.prog [] Tryz.f64 [.pointer r] h [.one .bool] R = S_word_Reader_Done r h R := by kernel_rfl
theorem A_word_Reader_Done {r : Option Addr} {h : Heap} {R : Bool → Heap → Prop} (hs : S_word_Reader_Done r h R) : C_word_Reader_Done r h R :=
  use_ Tryz.func64 (by kernel_rfl) (E_word_Reader_Done r h R) hs

/-- (*word.Reader).Int -/
def S_word_Reader_Int (r : Option Addr) (least : Int) (most : Int) (h : Heap) (R : Int → Heap → Prop) : Prop :=
  C_word_Reader_part r 8 h fun (r1 : Sl) h_ =>
  Loop [.one (.int .u64), .one (.int .i64)] (fun _ (u : Int) (x16 : Int) h_1 go =>
    (bif decide (x16 < (r1.n : Int)) then
      Ix r1 x16 1 fun e =>
      Ld (.int .u8) h_1 e fun (x : Int) =>
      Nneg 8 (
      Let (bitV .or .u64 (shiftV .shl .u64 u 8) (IntKind.u64.wrap x) : Int) fun u1 =>
      go u1 (IntKind.i64.wrap (x16 + 1)) h_1
      )
    else
      Let (IntKind.i64.wrap u : Int) fun n =>
      (bif !r1.a.isNone then
        (bif decide (n ≥ least) then
          (bif decide (n ≤ most) then
            R n h_1
          else
            C_word_Reader_fail r h_1 fun h_2 =>
            R 0 h_2
          )
        else
          C_word_Reader_fail r h_1 fun h_3 =>
          R 0 h_3
        )
      else
        C_word_Reader_fail r h_1 fun h_4 =>
        R 0 h_4
      )
    )
    ) (0, 0, ()) h_
theorem E_word_Reader_Int (r : Option Addr) (least : Int) (most : Int) (h : Heap) (R : Int → Heap → Prop) :
    VF Tryz.prog [(122, [(7, .one (.int .u64)), (16, .one (.int .i64))])] Tryz.f90 [.pointer r, .int .i64 least, .int .i64 most] h [.one (.int .i64)] R = S_word_Reader_Int r least most h R := by kernel_rfl
theorem A_word_Reader_Int {r : Option Addr} {least : Int} {most : Int} {h : Heap} {R : Int → Heap → Prop} (hs : S_word_Reader_Int r least most h R) : C_word_Reader_Int r least most h R :=
  use_ Tryz.func90 (by kernel_rfl) (E_word_Reader_Int r least most h R) hs

/-- (*word.Reader).Text -/
def S_word_Reader_Text (r : Option Addr) (most : Int) (h : Heap) (R : ByteArray → Heap → Prop) : Prop :=
  C_word_Reader_part r 2 h fun (r1 : Sl) h_ =>
  (bif r1.a.isNone then
    R (⟨#[]⟩ : ByteArray) h_
  else
    Ix r1 0 1 fun e =>
    Ld (.int .u8) h_ e fun (x : Int) =>
    Nneg 8 (
    Ix r1 1 1 fun e1 =>
    Ld (.int .u8) h_ e1 fun (x1 : Int) =>
    Let (bitV .or .i64 (shiftV .shl .i64 (IntKind.i64.wrap x) 8) (IntKind.i64.wrap x1) : Int) fun n =>
    (bif decide (n > most) then
      C_word_Reader_fail r h_ fun h_1 =>
      R (⟨#[]⟩ : ByteArray) h_1
    else
      C_word_Reader_part r n h_ fun (r2 : Sl) h_2 =>
      ToS Tryz.prog 75 9 r2 h_2 fun str =>
      R str h_2
    )
    )
  )
theorem E_word_Reader_Text (r : Option Addr) (most : Int) (h : Heap) (R : ByteArray → Heap → Prop) :
    VF Tryz.prog [] Tryz.f91 [.pointer r, .int .i64 most] h [.one .str] R = S_word_Reader_Text r most h R := by kernel_rfl
theorem A_word_Reader_Text {r : Option Addr} {most : Int} {h : Heap} {R : ByteArray → Heap → Prop} (hs : S_word_Reader_Text r most h R) : C_word_Reader_Text r most h R :=
  use_ Tryz.func91 (by kernel_rfl) (E_word_Reader_Text r most h R) hs

/-- (*word.Reader).Fail -/
def S_word_Reader_Fail (r : Option Addr) (h : Heap) (R : Bool → Heap → Prop) : Prop :=
  (bif r.isNone then
    R true h
  else
    Nn r fun p =>
    Ld .bool h (p.add 1) fun (bad : Bool) =>
    R bad h
  )
theorem E_word_Reader_Fail (r : Option Addr) (h : Heap) (R : Bool → Heap → Prop) :
    VF Tryz.prog [] Tryz.f92 [.pointer r] h [.one .bool] R = S_word_Reader_Fail r h R := by kernel_rfl
theorem A_word_Reader_Fail {r : Option Addr} {h : Heap} {R : Bool → Heap → Prop} (hs : S_word_Reader_Fail r h R) : C_word_Reader_Fail r h R :=
  use_ Tryz.func92 (by kernel_rfl) (E_word_Reader_Fail r h R) hs

/-- (*word.Reader).part -/
def S_word_Reader_part (r : Option Addr) (n : Int) (h : Heap) (R : Sl → Heap → Prop) : Prop :=
  C_word_Reader_Fail r h fun (r1 : Bool) h_ =>
  (bif r1 then
    C_word_Reader_fail r h_ fun h_1 =>
    R ⟨none, 0, 0⟩ h_1
  else
    Nn r fun p =>
    Ld .sl h_ p fun (b : Sl) =>
    (bif decide ((b.n : Int) < n) then
      C_word_Reader_fail r h_ fun h_2 =>
      R ⟨none, 0, 0⟩ h_2
    else
      Nn r fun p1 =>
      Ld .sl h_ p1 fun (b1 : Sl) =>
      Cut Tryz.prog 75 b1 none (some (.int .i64 n)) none fun s =>
      Nn r fun p2 =>
      Ld .sl h_ p2 fun (b2 : Sl) =>
      Cut Tryz.prog 75 b2 (some (.int .i64 n)) none none fun s1 =>
      Nn r fun p3 =>
      St h_ p3 (.slice s1.a s1.n s1.c) fun h_3 =>
      R s h_3
    )
  )
theorem E_word_Reader_part (r : Option Addr) (n : Int) (h : Heap) (R : Sl → Heap → Prop) :
    VF Tryz.prog [] Tryz.f110 [.pointer r, .int .i64 n] h [.one .sl] R = S_word_Reader_part r n h R := by kernel_rfl
theorem A_word_Reader_part {r : Option Addr} {n : Int} {h : Heap} {R : Sl → Heap → Prop} (hs : S_word_Reader_part r n h R) : C_word_Reader_part r n h R :=
  use_ Tryz.func110 (by kernel_rfl) (E_word_Reader_part r n h R) hs

/-- (*word.Reader).fail -/
def S_word_Reader_fail (r : Option Addr) (h : Heap) (R : Heap → Prop) : Prop :=
  (bif !r.isNone then
    Nn r fun p =>
    St h (p.add 1) (.bool true) fun h_ =>
    Nn r fun p1 =>
    St h_ p1 (.slice none 0 0) fun h_1 =>
    R h_1
  else
    R h
  )
theorem E_word_Reader_fail (r : Option Addr) (h : Heap) (R : Heap → Prop) :
    VF Tryz.prog [] Tryz.f111 [.pointer r] h [] R = S_word_Reader_fail r h R := by kernel_rfl
theorem A_word_Reader_fail {r : Option Addr} {h : Heap} {R : Heap → Prop} (hs : S_word_Reader_fail r h R) : C_word_Reader_fail r h R :=
  use_ Tryz.func111 (by kernel_rfl) (E_word_Reader_fail r h R) hs

/-- word.Int -/
def S_word_Int (b : Sl) (n : Int) (h : Heap) (R : Sl → Heap → Prop) : Prop :=
  Loop [.one .sl, .one (.int .i64)] (fun _ (b1 : Sl) (i : Int) h_ go =>
    (bif decide (i ≥ 0) then
      Nneg (IntKind.u64.wrap (IntKind.i64.wrap (8 * i))) (
      Alloc h_ (.cells #[.int .u8 (IntKind.u8.wrap (shiftV .shr .u64 (IntKind.u64.wrap n) (IntKind.u64.wrap (IntKind.i64.wrap (8 * i)))))] 5) fun b2 h_1 =>
      App Tryz.prog 75 75 b1 ⟨some b2, 1, 1⟩ h_1 fun s h_2 =>
      Let (IntKind.i64.wrap (i - 1) : Int) fun i1 =>
      go s i1 h_2
      )
    else
      R b1 h_
    )
    ) (b, 7, ()) h
theorem E_word_Int (b : Sl) (n : Int) (h : Heap) (R : Sl → Heap → Prop) :
    VF Tryz.prog [(26, [(0, .one .sl), (5, .one (.int .i64))])] Tryz.f117 [.slice b.a b.n b.c, .int .i64 n] h [.one .sl] R = S_word_Int b n h R := by kernel_rfl
theorem A_word_Int {b : Sl} {n : Int} {h : Heap} {R : Sl → Heap → Prop} (hs : S_word_Int b n h R) : C_word_Int b n h R :=
  use_ Tryz.func117 (by kernel_rfl) (E_word_Int b n h R) hs

/-- word.Text -/
def S_word_Text (b : Sl) (s : ByteArray) (h : Heap) (R : Sl → Heap → Prop) : Prop :=
  Let (if 65535 < (s.size : Int) then 65535 else (s.size : Int) : Int) fun n =>
  Nneg 8 (
  Alloc h (.cells #[.int .u8 (IntKind.u8.wrap (shiftV .shr .i64 n 8)), .int .u8 (IntKind.u8.wrap n)] 5) fun b1 h_ =>
  App Tryz.prog 75 75 b ⟨some b1, 2, 2⟩ h_ fun s1 h_1 =>
  CutS Tryz.prog 9 s none (some (.int .i64 n)) fun s2 =>
  OpT Tryz.prog (Builtin.append_ #[75, 9] 75 #[.slice s1.a s1.n s1.c, .string s2]) h_1 [.one .sl] fun s3 h_2 =>
  R s3 h_2
  )
theorem E_word_Text (b : Sl) (s : ByteArray) (h : Heap) (R : Sl → Heap → Prop) :
    VF Tryz.prog [] Tryz.f118 [.slice b.a b.n b.c, .string s] h [.one .sl] R = S_word_Text b s h R := by kernel_rfl
theorem A_word_Text {b : Sl} {s : ByteArray} {h : Heap} {R : Sl → Heap → Prop} (hs : S_word_Text b s h R) : C_word_Text b s h R :=
  use_ Tryz.func118 (by kernel_rfl) (E_word_Text b s h R) hs

end Go.Proofs.YtniojdaddolnfaaGreat

/-
  Layer 1 (word): the program's reader and puts, over a row of things.
-/
namespace Go.Proofs.YtniojdaddolnfaaGreat
open Go

theorem TB : ElemT Tryz.prog 75 5 1 1 := .of (by kernel_rfl)
theorem TXT : Tryz.prog.underlying 9 = some .string := by kernel_rfl
/-! ## The model: whether it failed, what is left, the answer -/
def mInt (bad : Bool) (l : List UInt8) (least most : Int) : Bool × List UInt8 × Int :=
  if bad = true ∨ l.length < 8 then (true, [], 0)
  else if least ≤ IntKind.i64.wrap (valBE (l.take 8)) ∧ IntKind.i64.wrap (valBE (l.take 8)) ≤ most then (false, l.drop 8, IntKind.i64.wrap (valBE (l.take 8))) else (true, [], 0)
def mText (bad : Bool) (l : List UInt8) (most : Int) : Bool × List UInt8 × List UInt8 :=
  if bad = true ∨ l.length < 2 then (true, [], [])
  else if most < valBE (l.take 2) then (true, [], [])
  else if (l.drop 2).length < valBE (l.take 2) then (true, [], [])
  else (false, (l.drop 2).drop (valBE (l.take 2)), (l.drop 2).take (valBE (l.take 2)))
def mBool (bad : Bool) (l : List UInt8) : Bool × List UInt8 × Bool :=
  if bad = true ∨ l.length < 1 then (true, [], false)
  else if 1 < valBE (l.take 1) then (true, [], false) else (false, l.drop 1, valBE (l.take 1) == 1)

theorem byte_lt (b : UInt8) : (b.toNat : Int) < 256 := by have := b.toNat_lt; omega
theorem cB_get (l : List UInt8) (j : Nat) (hj : j < l.length) : (cB l)[j]? = some (.int .u8 (l[j].toNat : Int)) := by
  simp [cB, List.getElem?_eq_getElem hj]
theorem ixB {h : Heap} {s : Sl} {l : List UInt8} {i : Int} {K : Int → Prop} (hr : RdS h 1 s (cB l)) (k : Nat) (hi : i = (k : Int)) (hk : k < l.length) (hK : K (l[k].toNat : Int)) :
    Ix s i 1 fun e => Ld (.int .u8) h e K := by
  subst hi
  have hlen : l.length = s.n := by have := hr.1; rw [cB_length] at this; omega
  refine ix hr (by omega) (by omega) (by decide) fun g o _ hc => ?_
  have := hc 0 (by decide)
  simp only [Nat.add_zero, Int.toNat_natCast, Nat.mul_one] at this
  exact ld _ (this.trans (cB_get l k hk)) hK

theorem valBE8 {l : List UInt8} {k : Nat} (hk : k ≤ 8) : valBE (l.take k) < 18446744073709551616 := by
  have h1 := valBE_lt (l.take k)
  have h2 : (l.take k).length ≤ 8 := by rw [List.length_take]; omega
  have h3 : 256 ^ (l.take k).length ≤ 256 ^ 8 := Nat.pow_le_pow_right (by decide) h2
  have h4 : (256 : Nat) ^ 8 = 18446744073709551616 := by decide
  omega
theorem valBE2 {l : List UInt8} : valBE (l.take 2) < 65536 := by
  have h1 := valBE_lt (l.take 2)
  have h2 : (l.take 2).length ≤ 2 := by rw [List.length_take]; omega
  have h3 : 256 ^ (l.take 2).length ≤ 256 ^ 2 := Nat.pow_le_pow_right (by decide) h2
  have h4 : (256 : Nat) ^ 2 = 65536 := by decide
  omega
theorem valBE_take2 {l : List UInt8} (h : 2 ≤ l.length) : valBE (l.take 2) = l[0].toNat * 256 + l[1].toNat := by
  rw [take_snoc l 1 (by omega), valBE_snoc, take_snoc l 0 (by omega), valBE_snoc]
  simp [valBE]
theorem valBE_take1 {l : List UInt8} (h : 1 ≤ l.length) : valBE (l.take 1) = l[0].toNat := by
  rw [take_snoc l 0 (by omega), valBE_snoc]
  simp [valBE]


/-! ## A slice of a source: it reads as a part of that one, in whichever heap -/
theorem rds_cut {h : Heap} {sz : Nat} {s : Sl} {xs : List Value} (hr : RdS h sz s xs) (l u m : Nat) (h1 : l ≤ u) (hu : u ≤ s.n) (h2 : u ≤ m) : RdS h sz (cutSl s sz l u m) ((xs.drop (l * sz)).take ((u - l) * sz)) := by
  refine ⟨?_, fun hp => ?_⟩
  · have e1 : (u - l) * sz + l * sz ≤ s.n * sz := by rw [← Nat.add_mul]; exact Nat.mul_le_mul_right _ (by omega)
    rw [List.length_take, List.length_drop, hr.1]
    show min ((u - l) * sz) _ = (u - l) * sz
    omega
  · rw [List.length_take, List.length_drop] at hp
    obtain ⟨g, o, ha, hx⟩ := hr.2 (by omega)
    have hne : m ≠ l := fun e => by
      have : u - l = 0 := by omega
      rw [this] at hp; simp at hp
    refine ⟨g, o + l * sz, by simp only [cutSl]; rw [if_neg hne, ha]; simp [add_at], fun j hj => ?_⟩
    rw [List.length_take, List.length_drop] at hj
    rw [Nat.add_assoc, hx _ (by omega), List.getElem?_take, if_pos (by omega), List.getElem?_drop]
structure RdF (q : Sl) (l0 : List UInt8) (s : Sl) (l : List UInt8) : Prop where
  rd : ∀ h, RdS h 1 q (cB l0) → RdS h 1 s (cB l)
  le : s.n ≤ s.c
  n : s.n = l.length
theorem RdF.nil (q : Sl) (l0 : List UInt8) : RdF q l0 ⟨none, 0, 0⟩ [] := ⟨fun _ _ => RdS.nil _ _ _ _, Nat.le_refl _, rfl⟩
theorem RdF.self {h : Heap} {q : Sl} {l0 : List UInt8} (hr : RdS h 1 q (cB l0)) (h1 : q.n ≤ q.c) : RdF q l0 q l0 := ⟨fun _ x => x, h1, rd_b hr⟩
theorem cutF {q s : Sl} {l0 l : List UInt8} {lo hi mx : Option Value} {K : Sl → Prop} (hs : RdF q l0 s l) (a b m : Nat) (hlo : LoIs lo a) (hhi : HiIs hi s.n b)
    (hmx : (mx = none ∧ m = s.c) ∨ (HiIs mx s.c m ∧ hi ≠ none)) (h1 : a ≤ b) (hu : b ≤ l.length) (h2 : b ≤ m) (h3 : m ≤ s.c)
    (hk : ∀ s', RdF q l0 s' ((l.drop a).take (b - a)) → s'.n = b - a → K s') : Cut Tryz.prog 75 s lo hi mx K := by
  have hn := hs.n
  refine cut_raw TB a b m hlo hhi hmx h1 h2 h3 (hk _ ⟨fun h hq => ?_, ?_, ?_⟩ rfl)
  · have := rds_cut (hs.rd h hq) a b m h1 (by omega) h2
    rwa [Nat.mul_one, Nat.mul_one, cB_drop, cB_take] at this
  · show b - a ≤ m - a; omega
  · show b - a = _; rw [List.length_take, List.length_drop]; omega
/-- A reader: its struct. -/
def rdr (p : Nat) (ty : TypeId) (s : Sl) (bad : Bool) : Res := .blk p ty [.slice s.a s.n s.c, .bool bad]
/-- Where its source is read, whatever the struct tells. -/
def Src (h0 : Heap) (p : Nat) (F : List Res) (q : Sl) (l0 : List UInt8) : Prop := ∀ h' ty cs, At h0 h' (.blk p ty cs :: F) → RdS h' 1 q (cB l0)
section
variable {h0 h : Heap} {F : List Res} {p : Nat} {ty : TypeId} {q s : Sl} {bad : Bool} {l0 l : List UInt8}
theorem word_Read_ok {L : List Res} {R : Option Addr → Heap → Prop} (H : At h0 h L) (hR : ∀ p ty h', At h0 h' (rdr p ty s false :: L) → R (some ⟨p, 0, none⟩) h') : C_word_Read s h R := by
  refine A_word_Read ?_
  unfold S_word_Read
  exact allocAt H fun h' b H => hR b _ h' H
theorem word_Fail_ok {R : Bool → Heap → Prop} (H : At h0 h (rdr p ty s bad :: F)) (hR : R bad h) : C_word_Reader_Fail (some ⟨p, 0, none⟩) h R := by
  refine A_word_Reader_Fail ?_
  exact nn (ldAt H 0 rfl bad rfl hR)
theorem word_fail_ok {R : Heap → Prop} (H : At h0 h (rdr p ty s bad :: F)) (hR : ∀ h', At h0 h' (rdr p ty ⟨none, 0, 0⟩ true :: F) → R h') : C_word_Reader_fail (some ⟨p, 0, none⟩) h R := by
  refine A_word_Reader_fail ?_
  exact nn (stAt H 0 rfl (by rfl) fun h2 H => nn (stAt0 H 0 rfl (by rfl) fun h3 H => hR h3 H))
theorem word_part_ok {n : Int} {R : Sl → Heap → Prop} (H : At h0 h (rdr p ty s bad :: F)) (hs : RdF q l0 s l) (hq : Src h0 p F q l0) (k : Nat) (hn : n = (k : Int))
    (h1 : (bad = true ∨ l.length < k) → ∀ h', At h0 h' (rdr p ty ⟨none, 0, 0⟩ true :: F) → R ⟨none, 0, 0⟩ h')
    (h2 : bad = false → k ≤ l.length → ∀ s1 s' h', At h0 h' (rdr p ty s' false :: F) → RdF q l0 s' (l.drop k) → RdF q l0 s1 (l.take k) → RdS h' 1 s1 (cB (l.take k)) → s1.n = k → R s1 h') :
    C_word_Reader_part (some ⟨p, 0, none⟩) n h R := by
  refine A_word_Reader_part ?_
  unfold S_word_Reader_part
  have hsn := hs.n
  have hsc := hs.le
  subst hn
  refine word_Fail_ok H ?_
  cases bad with
  | true => exact word_fail_ok H fun h' H => h1 (.inl rfl) h' H
  | false =>
    refine nn (ldAt0 H 0 rfl s rfl (brD (fun hlt => ?_) fun hge => ?_))
    · exact word_fail_ok H fun h' H => h1 (.inr (by omega)) h' H
    · refine nn (ldAt0 H 0 rfl s rfl (cutF hs 0 k s.c lo0 (hii rfl) (.inl ⟨rfl, rfl⟩) (by omega) (by omega) (by omega) (by omega) fun s1 r1 n1 => ?_))
      refine nn (ldAt0 H 0 rfl s rfl (cutF hs k s.n s.c (loi rfl) (hi0 _) (.inl ⟨rfl, rfl⟩) (by omega) (by omega) (by omega) (by omega) fun s2 r2 n2 => ?_))
      refine nn (stAt0 H 0 rfl (by rfl) fun h' H => ?_)
      rw [List.drop_zero, Nat.sub_zero] at r1
      rw [List.take_of_length_le (by rw [List.length_drop]; omega)] at r2
      exact h2 rfl (by omega) s1 s2 h' H r2 r1 (r1.rd _ (hq _ _ _ H)) (by omega)
theorem some_of_rd {h : Heap} {s : Sl} {l : List UInt8} (hr : RdS h 1 s (cB l)) (hp : 0 < l.length) : s.a.isNone = false := by
  obtain ⟨g, o, ha, _⟩ := hr.2 (by rw [cB_length]; exact hp)
  rw [ha]; rfl
theorem word_Int_ok {least most : Int} {R : Int → Heap → Prop} (H : At h0 h (rdr p ty s bad :: F)) (hs : RdF q l0 s l) (hq : Src h0 p F q l0)
    (hR : ∀ h' s', At h0 h' (rdr p ty s' (mInt bad l least most).1 :: F) → RdF q l0 s' (mInt bad l least most).2.1 → R (mInt bad l least most).2.2 h') : C_word_Reader_Int (some ⟨p, 0, none⟩) least most h R := by
  refine A_word_Reader_Int ?_
  unfold S_word_Reader_Int
  refine word_part_ok H hs hq 8 rfl (fun hf h1 H => ?_) fun hb hle s1 s2 h1 H r2 _ rd hn => ?_
  · have hm : mInt bad l least most = (true, [], 0) := by unfold mInt; rw [if_pos (hf)]
    rw [hm] at hR
    refine loop2 (s1 := .one (.int .u64)) (s2 := .one (.int .i64)) (fun (u x : Int) h2 => u = 0 ∧ x = 0 ∧ h2 = h1) (fun _ _ _ => 0) ⟨rfl, rfl, rfl⟩ fun _ (u : Int) (x : Int) h2 hI => ?_
    obtain ⟨rfl, rfl, rfl⟩ := hI
    refine brD (fun hc => absurd hc (by decide)) fun _ => ?_
    exact word_fail_ok H fun h3 H => hR h3 _ H (RdF.nil _ _)
  · have hlen : (l.take 8).length = 8 := by rw [List.length_take]; omega
    have hn8 : s1.n = 8 := hn
    refine loop2 (s1 := .one (.int .u64)) (s2 := .one (.int .i64)) (fun (u x : Int) h2 => ∃ k : Nat, k ≤ 8 ∧ x = k ∧ u = valBE ((l.take 8).take k) ∧ h2 = h1) (fun _ (x : Int) _ => (8 - x).toNat) ⟨0, by decide, rfl, by simp [valBE], rfl⟩ fun _ (u : Int) (x : Int) h2 hI => ?_
    obtain ⟨k, hk, rfl, rfl, rfl⟩ := hI
    refine brD (fun hc => ?_) fun hc => ?_
    · have hk8 : k < (l.take 8).length := by omega
      refine ixB (rd) k rfl hk8 (nneg (by decide) (let_ ?_))
      have hv := valBE8 (l := l.take 8) (k := k) hk
      have hv2 := valBE8 (l := l.take 8) (k := k + 1) (by omega)
      have hb8 := ((l.take 8)[k]).toNat_lt
      have hs := take_snoc (l.take 8) k hk8
      have e1 : bitV .or .u64 (shiftV .shl .u64 (valBE ((l.take 8).take k) : Int) 8) (IntKind.u64.wrap (((l.take 8)[k]).toNat : Int)) = (valBE ((l.take 8).take (k + 1)) : Int) := by
        rw [hs, valBE_snoc] at hv2 ⊢
        exact shl_or_u64 hb8 hv2
      rw [e1, w64 (by omega) (by omega)]
      exact ⟨⟨k + 1, by omega, by omega, rfl, rfl⟩, by omega⟩
    · have hk8 : k = 8 := by omega
      subst hk8
      rw [show (l.take 8).take 8 = l.take 8 by rw [List.take_take]; simp]
      have hns := some_of_rd rd (by omega)
      have hbad : bad = false := hb
      have hm : mInt bad l least most = if least ≤ IntKind.i64.wrap (valBE (l.take 8)) ∧ IntKind.i64.wrap (valBE (l.take 8)) ≤ most then (false, l.drop 8, IntKind.i64.wrap (valBE (l.take 8))) else (true, [], 0) := by
        unfold mInt; rw [if_neg (by rw [hbad]; simp; omega)]
      refine let_ ?_
      rw [hns]
      refine brT ?_
      have fl : ¬ (least ≤ IntKind.i64.wrap (valBE (l.take 8)) ∧ IntKind.i64.wrap (valBE (l.take 8)) ≤ most) → C_word_Reader_fail (some ⟨p, 0, none⟩) h2 fun h3 => R 0 h3 := fun hno => by
        rw [hm, if_neg hno] at hR
        exact word_fail_ok H fun h3 H => hR h3 _ H (RdF.nil _ _)
      refine brD (fun c1 => brD (fun c2 => ?_) fun c2 => fl fun hx => c2 hx.2) fun c1 => fl fun hx => c1 hx.1
      rw [hm, if_pos ⟨c1, c2⟩] at hR
      exact hR _ _ H r2
theorem word_Text_ok {most : Int} {R : ByteArray → Heap → Prop} (H : At h0 h (rdr p ty s bad :: F)) (hs : RdF q l0 s l) (hq : Src h0 p F q l0)
    (hR : ∀ h' s', At h0 h' (rdr p ty s' (mText bad l most).1 :: F) → RdF q l0 s' (mText bad l most).2.1 → R (strB (mText bad l most).2.2) h') : C_word_Reader_Text (some ⟨p, 0, none⟩) most h R := by
  refine A_word_Reader_Text ?_
  unfold S_word_Reader_Text
  refine word_part_ok H hs hq 2 rfl (fun hf h1 H => ?_) fun hb hle s1 s2 h1 H r2 _ rd hn => ?_
  · have hm : mText bad l most = (true, [], []) := by unfold mText; rw [if_pos (hf)]
    rw [hm] at hR
    exact hR h1 _ H (RdF.nil _ _)
  · have h2l : (l.take 2).length = 2 := by rw [List.length_take]; omega
    rw [some_of_rd rd (by omega)]
    refine brF ?_
    refine ixB rd 0 rfl (by omega) (nneg (by decide) (ixB rd 1 rfl (by omega) (let_ ?_)))
    have b0 := ((l.take 2)[0]).toNat_lt
    have b1 := ((l.take 2)[1]).toNat_lt
    have hv : valBE (l.take 2) = ((l.take 2)[0]).toNat * 256 + ((l.take 2)[1]).toNat := by
      have := valBE_take2 (l := l.take 2) (by omega)
      rwa [List.take_take] at this
    have e1 : bitV .or .i64 (shiftV .shl .i64 (IntKind.i64.wrap (((l.take 2)[0]).toNat : Int)) 8) (IntKind.i64.wrap (((l.take 2)[1]).toNat : Int)) = (valBE (l.take 2) : Int) := by
      rw [shl_or_i64 b1 (by omega), hv]
    rw [e1]
    have hbad : bad = false := hb
    have hm : mText bad l most = if most < valBE (l.take 2) then (true, [], [])
        else if (l.drop 2).length < valBE (l.take 2) then (true, [], [])
        else (false, (l.drop 2).drop (valBE (l.take 2)), (l.drop 2).take (valBE (l.take 2))) := by
      unfold mText; rw [if_neg (by rw [hbad]; simp; omega)]
    refine brD (fun c1 => ?_) fun c1 => ?_
    · rw [hm, if_pos (by omega)] at hR
      exact word_fail_ok H fun h3 H => hR h3 _ H (RdF.nil _ _)
    · rw [if_neg (by omega)] at hm
      refine word_part_ok H r2 hq (valBE (l.take 2)) rfl (fun hf h3 H => ?_) fun _ hle3 s3 s4 h3 H r4 _ rd3 _ => ?_
      · have hf' : (l.drop 2).length < valBE (l.take 2) := by
          rcases hf with hf | hf
          · cases hf
          · omega
        rw [hm, if_pos hf'] at hR
        refine toS BT (l := []) (RdS.nil _ _ _ _) ?_
        exact hR h3 _ H (RdF.nil _ _)
      · rw [hm, if_neg (by omega)] at hR
        refine toS BT (l := (l.drop 2).take (valBE (l.take 2))) rd3 ?_
        exact hR h3 _ H r4
theorem word_Done_ok {R : Bool → Heap → Prop} (H : At h0 h (rdr p ty s bad :: F)) (hs : RdF q l0 s l) (hR : R (!bad && l.isEmpty) h) : C_word_Reader_Done (some ⟨p, 0, none⟩) h R := by
  refine A_word_Reader_Done ?_
  unfold S_word_Reader_Done
  refine word_Fail_ok H ?_
  cases bad with
  | true => exact hR
  | false =>
    have hlen := hs.n
    refine nn (ldAt0 H 0 rfl s rfl ?_)
    have : (((s.n : Nat) : Int) == 0) = l.isEmpty := by
      rw [hlen, Bool.eq_iff_iff]; simp only [beq_iff_eq, List.isEmpty_iff, List.length_eq_zero_iff.symm]; omega
    rw [this]
    exact hR
end
/-! ## The model -/
def u64 (n : Int) : Nat := (n % 18446744073709551616).toNat
def beN (u k : Nat) : List UInt8 := (List.range k).map fun i => UInt8.ofNat (u / 256 ^ (k - 1 - i))
def be8 (n : Int) : List UInt8 := beN (u64 n) 8
def be2 (k : Nat) : List UInt8 := [UInt8.ofNat (k / 256), UInt8.ofNat k]
def txt (l : List UInt8) : List UInt8 := be2 (min l.length 65535) ++ l.take 65535
def tru (b : Bool) : List UInt8 := [if b then 1 else 0]

theorem u64_lt (n : Int) : u64 n < 18446744073709551616 := by unfold u64; omega
theorem u64_cast (n : Int) : (u64 n : Int) = IntKind.u64.wrap n := by rw [wrU64]; unfold u64; omega
theorem beN_length (u k : Nat) : (beN u k).length = k := by simp [beN]
theorem be8_length (n : Int) : (be8 n).length = 8 := beN_length _ _
theorem beN_succ (u k : Nat) : beN u (k + 1) = beN (u / 256) k ++ [UInt8.ofNat u] := by
  unfold beN
  rw [List.range_succ, List.map_append]
  congr 1
  · apply List.map_congr_left
    intro i hi
    have : i < k := by simpa using hi
    rw [Nat.div_div_eq_div_mul, show k + 1 - 1 - i = (k - 1 - i) + 1 by omega, Nat.pow_succ, Nat.mul_comm]
  · simp
theorem beN_cons (u k : Nat) : beN u (k + 1) = UInt8.ofNat (u / 256 ^ k) :: beN u k := by
  unfold beN
  rw [List.range_succ_eq_map, List.map_cons, List.map_map]
  congr 1
  apply List.map_congr_left
  intro i hi
  simp only [Function.comp]
  congr 3
  omega
theorem valBE_beN : ∀ (k u : Nat), valBE (beN u k) = u % 256 ^ k
  | 0, u => by simp [beN, valBE]; omega
  | k + 1, u => by
    rw [beN_succ, valBE_snoc, valBE_beN k, Nat.pow_succ, UInt8.toNat_ofNat', Nat.mul_comm (256 ^ k) 256, Nat.mod_mul]
    omega
theorem valBE_be8 (n : Int) : valBE (be8 n) = u64 n := by
  unfold be8
  rw [valBE_beN]
  exact Nat.mod_eq_of_lt (by have := u64_lt n; have e : (256 : Nat) ^ 8 = 18446744073709551616 := by decide +kernel
                             rw [e]; exact this)
theorem byte_val (u : Nat) : IntKind.u8.wrap (u : Int) = ((UInt8.ofNat u).toNat : Int) := by
  rw [wrU8, UInt8.toNat_ofNat']; omega
theorem shr_u64 (u i : Nat) (hi : i ≤ 7) : shiftV .shr .u64 (u : Int) ((8 * i : Nat) : Int) = ((u / 256 ^ i : Nat) : Int) := by
  rw [shr_eq .u64 _ _ (by show 8 * i ≤ 64; omega), show (2 : Int) ^ (8 * i) = ((2 ^ (8 * i) : Nat) : Int) by rw [Int.natCast_pow]; rfl, Nat.pow_mul, ← Int.natCast_ediv]

section
variable {h : Heap}
theorem word_IntP {s : Sl} {xs : List UInt8} {n : Int} {R : Sl → Heap → Prop} (ho : Own h 1 s (cB xs)) (hlen : xs.length ≤ 1000000000000)
    (hR : ∀ s' h', Own h' 1 s' (cB (xs ++ be8 n)) → Grw h s h' s' → R s' h') : C_word_Int s n h R := by
  refine A_word_Int ?_
  unfold S_word_Int
  refine loop2 (s1 := .one .sl) (s2 := .one (.int .i64)) (fun (b : Sl) (i : Int) h1 => ∃ k : Nat, k ≤ 8 ∧ i = 7 - (k : Int) ∧ Own h1 1 b (cB (xs ++ (be8 n).take k)) ∧ Grw h s h1 b) (fun _ (i : Int) _ => (i + 1).toNat)
    ⟨0, by decide, rfl, by simpa using ho, Grw.refl _ _⟩ fun _ (b : Sl) (i : Int) h1 hI => ?_
  obtain ⟨k, hk, rfl, hb, hg⟩ := hI
  have hbn : b.n = xs.length + k := by
    have := hb.1
    rw [cB_length, List.length_append, List.length_take, be8_length] at this
    omega
  refine brD (fun hc => ?_) fun hc => ?_
  · have e1 : IntKind.u64.wrap (IntKind.i64.wrap (8 * (7 - (k : Int)))) = ((8 * (7 - k) : Nat) : Int) := by
      rw [w64 (by omega) (by omega), wu64 (by omega) (by omega)]; omega
    rw [e1, ← u64_cast, shr_u64 _ _ (by omega), byte_val]
    refine nneg (by omega) (alloc (cs := cB [UInt8.ofNat (u64 n / 256 ^ (7 - k))]) fun h2 hb2 he2 hz2 => ?_)
    have hx : RdS h2 1 ⟨some ⟨h1.size, 0, none⟩, 1, 1⟩ (cB [UInt8.ofNat (u64 n / 256 ^ (7 - k))]) := (Own.full hb2 (sz := 1) (n := 1) (by rfl) (by decide)).rd
    refine app TB (hb.ext' he2) hx cB_one (by show (b.n + 1) * 1 ≤ _; omega) (by show b.n + 1 ≤ _; omega) fun s3 h3 ho3 hn3 hu3 hbl3 => let_ ?_
    have hk8 : k < (be8 n).length := by rw [be8_length]; omega
    have hget : (be8 n)[k] = UInt8.ofNat (u64 n / 256 ^ (7 - k)) := by simp [be8, beN]
    rw [w64 (by omega) (by omega)]
    refine ⟨⟨k + 1, by omega, by omega, ?_, hg.trans ((Grw.of_ext b he2).trans ⟨hu3, hbl3⟩)⟩, by omega⟩
    rw [take_snoc _ _ hk8, hget, ← List.append_assoc, cB_append]
    exact ho3
  · have : k = 8 := by omega
    subst this
    refine hR b h1 ?_ hg
    rwa [List.take_of_length_le (by rw [be8_length]; omega)] at hb

theorem be2_cells (k : Nat) : [Value.int .u8 (IntKind.u8.wrap (shiftV .shr .i64 (k : Int) 8)), Value.int .u8 (IntKind.u8.wrap (k : Int))] = cB (be2 k) := by
  rw [shr8_i64, show ((k : Int) / 256) = ((k / 256 : Nat) : Int) by omega, byte_val, byte_val]
  rfl

theorem word_TextP {s : Sl} {xs : List UInt8} {t : ByteArray} {R : Sl → Heap → Prop} (ho : Own h 1 s (cB xs)) (hlen : xs.length ≤ 1000000000000)
    (hR : ∀ s' h', Own h' 1 s' (cB (xs ++ txt t.data.toList)) → Grw h s h' s' → R s' h') : C_word_Text s t h R := by
  refine A_word_Text ?_
  unfold S_word_Text
  have hsz : t.data.toList.length = t.size := rfl
  have e0 : (if 65535 < (t.size : Int) then 65535 else (t.size : Int)) = ((min t.size 65535 : Nat) : Int) := by split <;> omega
  have hbn : s.n = xs.length := by have := ho.1; rw [cB_length] at this; omega
  refine let_ (nneg (by decide) ?_)
  rw [e0]
  have hc := be2_cells (min t.size 65535)
  rw [congrArg List.toArray hc]
  refine alloc (cs := cB (be2 (min t.size 65535))) fun h2 hb2 he2 hz2 => ?_
  have hx : RdS h2 1 ⟨some ⟨h.size, 0, none⟩, 2, 2⟩ (cB (be2 (min t.size 65535))) := (Own.full hb2 (sz := 1) (n := 2) (by rfl) (by decide)).rd
  refine app TB (ho.ext' he2) hx cB_one (by show (s.n + 2) * 1 ≤ _; omega) (by show s.n + 2 ≤ _; omega) fun s3 h3 ho3 hn3 hu3 hbl3 => ?_
  refine cutS TXT 0 (min t.size 65535) lo0 (hii rfl) (by omega) (by omega) ?_
  have hex : t.extract 0 (min t.size 65535) = strB (t.data.toList.take 65535) := by
    conv => lhs; rw [← strB_of t]
    rw [extract_strB]
    simp only [List.drop_zero, Nat.sub_zero, hsz, strB_size]
    congr 1
    rw [List.take_eq_take_iff, hsz]; omega
  rw [hex]
  have hl2 : (t.data.toList.take 65535).length ≤ 65535 := by rw [List.length_take]; omega
  have hn3' : s3.n = s.n + 2 := hn3
  refine opT_app TB ho3 (SrcH.str TXT _) (by rw [strB_size]; omega) (by rw [strB_size]; omega) fun s4 h4 ho4 hn4 hu4 hbl4 => ?_
  refine hR s4 h4 ?_ ((Grw.of_ext s he2).trans (Grw.trans ⟨hu3, hbl3⟩ ⟨hu4, hbl4⟩))
  rw [byteCells_eq, strB_data] at ho4
  unfold txt
  rw [cB_append, cB_append, ← List.append_assoc]
  exact ho4

/-! ## The reference -/
end
end Go.Proofs.YtniojdaddolnfaaGreat

/-
  Layer 6 (hard), over plain lists: a save's records, what records tell; what a crash leaves of them.
-/
namespace Go.Proofs.YtniojdaddolnfaaGreat
open Go

structure Ent where
  t : Int
  d : List UInt8
structure Stt where
  term : Int
  vote : Int
  es : List Ent
structure Sav where
  hard : Bool
  term : Int
  vote : Int
  frm : Int
  es : List Ent
def entR (frm : Int) (k : Nat) (e : Ent) : WRec := ⟨2, be8 (IntKind.i64.wrap (frm + (k : Int))) ++ be8 e.t ++ txt e.d⟩
def savR (s : Sav) : List WRec := (if s.hard then [⟨1, be8 s.term ++ be8 s.vote⟩] else []) ++ s.es.mapIdx (entR s.frm)
def rightE (term : Int) : Int → List Ent → Bool
  | _, [] => true
  | last, e :: es => if e.t < last ∨ term < e.t ∨ 512 < (e.d.length : Int) then false else rightE term e.t es
def rightM (s : Stt) : Bool := if s.term < 0 ∨ 1099511627776 < s.term ∨ s.vote < -1 ∨ 6 < s.vote ∨ 1024 < s.es.length then false else rightE s.term 1 s.es
def vT (d : List UInt8) : Bool × List UInt8 × Int := mInt false d 0 1099511627776
def vV (d : List UInt8) : Bool × List UInt8 × Int := mInt (vT d).1 (vT d).2.1 (-1) 6
def eI (n : Nat) (d : List UInt8) : Bool × List UInt8 × Int := mInt false d 1 ((n + 1 : Nat) : Int)
def eT (n : Nat) (d : List UInt8) : Bool × List UInt8 × Int := mInt (eI n d).1 (eI n d).2.1 1 1099511627776
def eD (n : Nat) (d : List UInt8) : Bool × List UInt8 × List UInt8 := mText (eT n d).1 (eT n d).2.1 512
def stepM (s : Stt) (r : WRec) : Option Stt :=
  if r.kind = 1 then (if (vV r.data).1 = false ∧ (vV r.data).2.1 = [] then some ⟨(vT r.data).2.2, (vV r.data).2.2, s.es⟩ else none)
  else if r.kind = 2 then
    (if (eD s.es.length r.data).1 = false ∧ (eD s.es.length r.data).2.1 = [] then
      some ⟨s.term, s.vote, s.es.take ((eI s.es.length r.data).2.2 - 1).toNat ++ [⟨(eT s.es.length r.data).2.2, (eD s.es.length r.data).2.2⟩]⟩ else none)
  else none
def playF : Stt → List WRec → Option Stt
  | s, [] => some s
  | s, r :: rs => match stepM s r with
    | none => none
    | some s' => playF s' rs
def st0 : Stt := ⟨0, -1, []⟩
def playM (l : List WRec) : Option Stt := match playF st0 l with
  | none => none
  | some s => if rightM s = true then some s else none

theorem mInt_ok {bad : Bool} {l : List UInt8} {lo hi : Int} (h : (mInt bad l lo hi).1 = false) : bad = false ∧ lo ≤ (mInt bad l lo hi).2.2 ∧ (mInt bad l lo hi).2.2 ≤ hi := by
  unfold mInt at h ⊢
  split at h
  · cases h
  · rename_i h1
    rw [if_neg h1]
    split at h
    · rename_i h2
      rw [if_pos h2]
      exact ⟨by cases bad <;> simp at h1 ⊢, h2⟩
    · cases h
theorem mText_ok {bad : Bool} {l : List UInt8} {m : Int} (h : (mText bad l m).1 = false) : bad = false ∧ ((mText bad l m).2.2.length : Int) ≤ m := by
  unfold mText at h ⊢
  split at h
  · cases h
  · rename_i h1
    rw [if_neg h1]
    split at h
    · cases h
    · rename_i h2
      rw [if_neg h2]
      split at h
      · cases h
      · rename_i h3
        rw [if_neg h3]
        refine ⟨by cases bad <;> simp at h1 ⊢, ?_⟩
        show (((l.drop 2).take (valBE (l.take 2))).length : Int) ≤ m
        rw [List.length_take]
        omega
theorem eD_ok {n : Nat} {d : List UInt8} (h : (eD n d).1 = false) : 1 ≤ (eI n d).2.2 ∧ (eI n d).2.2 ≤ ((n + 1 : Nat) : Int) := by
  obtain ⟨h1, _⟩ := mText_ok h
  obtain ⟨h2, _⟩ := mInt_ok h1
  exact (mInt_ok h2).2
theorem stepM_len {s s' : Stt} {r : WRec} (h : stepM s r = some s') : s'.es.length ≤ s.es.length + 1 := by
  unfold stepM at h
  split at h
  · split at h
    · injection h with h; subst h; exact Nat.le_succ _
    · cases h
  · split at h
    · split at h
      · injection h with h; subst h
        simp only [List.length_append, List.length_take, List.length_cons, List.length_nil]
        omega
      · cases h
    · cases h
theorem playF_snoc (s : Stt) : ∀ (a b : List WRec), playF s (a ++ b) = match playF s a with | none => none | some s' => playF s' b
  | [], b => rfl
  | r :: a, b => by
    show (match stepM s r with | none => none | some s' => playF s' (a ++ b)) = _
    rw [playF]
    cases stepM s r with
    | none => rfl
    | some s' => exact playF_snoc s' a b
theorem recsM_le' (m : Nat) : ∀ (l : List WRec), (∀ r ∈ l, r.data.length ≤ m) → (recsM l).length ≤ l.length * (m + 9)
  | [], _ => Nat.zero_le _
  | r :: l, h => by
    have h1 := recsM_le' m l fun x hx => h x (List.mem_cons_of_mem _ hx)
    have h2 := h r (List.mem_cons_self ..)
    have h3 := recM_length r
    rw [recsM_cons, List.length_append, List.length_cons, Nat.succ_mul]
    omega
theorem txt_length (l : List UInt8) : (txt l).length = min l.length 65535 + 2 := by
  unfold txt be2
  simp only [List.length_append, List.length_cons, List.length_nil, List.length_take]
  omega
theorem savR_ok {s : Sav} (h : ∀ e ∈ s.es, e.d.length ≤ 600) : ∀ r ∈ savR s, r.ok ∧ r.data.length ≤ 618 := by
  intro r hr
  rcases List.mem_append.1 hr with hr | hr
  · split at hr
    · rw [List.mem_singleton.1 hr]
      have e : (be8 s.term ++ be8 s.vote).length = 16 := by simp [be8_length]
      exact ⟨⟨(by decide : (1 : UInt8) ≠ 0), by show (be8 s.term ++ be8 s.vote).length < 4096; omega⟩, by show (be8 s.term ++ be8 s.vote).length ≤ 618; omega⟩
    · cases hr
  · rw [List.mem_mapIdx] at hr
    obtain ⟨k, hk, rfl⟩ := hr
    have h1 := h _ (List.getElem_mem hk)
    have h2 := txt_length s.es[k].d
    have e : (entR s.frm k s.es[k]).data.length = 16 + (txt s.es[k].d).length := by simp [entR, be8_length]; omega
    exact ⟨⟨(by decide : (2 : UInt8) ≠ 0), by omega⟩, by omega⟩
theorem savR_len (s : Sav) : (savR s).length ≤ s.es.length + 1 := by
  unfold savR
  rw [List.length_append, List.length_mapIdx]
  split <;> simp <;> omega
/-- What is read of records behind a crash. -/
theorem crash_wal {r1 r2 : List WRec} (ok1 : ∀ r ∈ r1, r.ok) (ok2 : ∀ r ∈ r2, r.ok) (keep at_ : Int) (y : UInt8) :
    ∃ j m e, j ≤ r2.length ∧ walR (crashL (recsM (r1 ++ r2)) (recsM r1).length keep at_ y) = (r1 ++ r2.take j, m, e) ∧ (recsM r1).length ≤ m ∧ (crashL (recsM (r1 ++ r2)) (recsM r1).length keep at_ y).length ≤ (recsM (r1 ++ r2)).length := by
  have hD : recsM (r1 ++ r2) = recsM r1 ++ recsM r2 := recsM_app ..
  have hcr : ∃ kp i c, crashL (recsM (r1 ++ r2)) (recsM r1).length keep at_ y = recsM r1 ++ flp ((recsM r2).take kp) i c := by
    unfold crashL
    rw [hD, List.length_append, Nat.add_sub_cancel_left]
    generalize min keep.toNat (recsM r2).length = kp
    have e : (recsM r1 ++ recsM r2).take ((recsM r1).length + kp) = recsM r1 ++ (recsM r2).take kp := List.take_length_add_append ..
    rw [e]
    split
    · exact ⟨kp, at_.toNat, y, by rw [flp_app2 (by omega), Nat.add_sub_cancel_left]⟩
    · exact ⟨kp, (recsM r2).length, y, by rw [flp_out (l := (recsM r2).take kp) (by rw [List.length_take]; omega)]⟩
  obtain ⟨kp, i, c, hcr⟩ := hcr
  rw [hcr]
  obtain ⟨f', hf', hw1⟩ := walM_recs [] r1 (flp ((recsM r2).take kp) i c) ((recsM r1 ++ flp ((recsM r2).take kp) i c).length + 1) [] 0 ok1 rfl (by simp)
  simp only [List.nil_append, Nat.zero_add] at hf' hw1
  obtain ⟨j, ee, hj, hw2, _⟩ := walM_crash (recsM r1) r2 kp i c f' r1 ok2 (by omega)
  refine ⟨j, _, ee, hj, hw1.trans hw2, Nat.le_add_right _ _, ?_⟩
  rw [hD, List.length_append, List.length_append, flp_length, List.length_take]
  omega
end Go.Proofs.YtniojdaddolnfaaGreat

/-
  '==' and '!=' of two structs whose fields are bools, integers and strings.
-/
namespace Go.Proofs.YtniojdaddolnfaaGreat
open Go

def eqB : Value → Value → Bool
  | .bool a, .bool b => a == b
  | .int _ a, .int _ b => a == b
  | .string a, .string b => a.toList == b.toList
  | _, _ => false
def fitK (P : Program) (e : TypeId) : Value → Value → Bool
  | .bool _, .bool _ => match P.underlying e with
    | some .bool => true
    | _ => false
  | .int k _, .int k' _ => match P.underlying e with
    | some (.int _) => decide (k = k')
    | _ => false
  | .string _, .string _ => match P.underlying e with
    | some .string => true
    | _ => false
  | _, _ => false
def fitB (P : Program) : Nat → List Field → List Value → List Value → Bool
  | _, [], [], [] => true
  | i, f :: fs, u :: us, v :: vs => (f.name != "_") && Nat.beq f.offset i && fitK P f.type u v && fitB P (i + 1) fs us vs
  | _, _, _, _ => false
/-- Are the cells the same? -/
def eqL : List Value → List Value → Bool
  | u :: us, v :: vs => eqB u v && eqL us vs
  | _, _ => true
def fitT (P : Program) (t : TypeId) (us vs : List Value) : Bool :=
  match P.underlying t with
  | some (.struct fs) => fitB P 0 fs.toList us vs && !P.stoodInHeld t && !P.eqGuardType P.depth t
  | _ => false
section
variable {P : Program}
theorem run_eqB (w : World) (d : Nat) {e : TypeId} {u v : Value} (hk : fitK P e u v = true) : P.plainKey e = true ∧ (Op.equalIn (d + 1) e u v).run P w = .ok (eqB u v) w := by
  unfold fitK at hk
  split at hk
  · split at hk
    · rename_i hu
      exact ⟨by simp [Program.plainKey, hu], run_equalIn_bool w d e _ _ hu⟩
    · cases hk
  · split at hk
    · rename_i hu
      have := of_decide_eq_true hk
      subst this
      exact ⟨by simp [Program.plainKey, hu], run_equalIn_int w d e _ _ _ _ hu⟩
    · cases hk
  · split at hk
    · rename_i hu
      exact ⟨by simp [Program.plainKey, hu], run_equalIn_string w d e _ _ hu⟩
    · cases hk
  · cases hk
theorem run_eqF (w : World) (d : Nat) (xs ys : Array Value) : ∀ (fs : List Field) (i : Nat) (us vs : List Value), xs.toList.drop i = us → ys.toList.drop i = vs → fitB P i fs us vs = true →
    (Op.eqFields (d + 1) xs ys fs).run P w = .ok (eqL us vs) w
  | [], i, us, vs, _, _, hf => by
    match us, vs, hf with
    | [], [], _ => simp [Op.eqFields, eqL]
    | [], _ :: _, hf => simp [fitB] at hf
    | _ :: _, _, hf => simp [fitB] at hf
  | f :: fs, i, us, vs, hx, hy, hf => by
    match us, vs, hf with
    | [], _, hf => simp [fitB] at hf
    | u :: us, [], hf => simp [fitB] at hf
    | u :: us, v :: vs, hf =>
      simp only [fitB, Bool.and_eq_true, bne_iff_ne] at hf
      obtain ⟨⟨⟨hn, ho⟩, hk⟩, hr⟩ := hf
      have ho : f.offset = i := Nat.eq_of_beq_eq_true ho
      obtain ⟨hp, he⟩ := run_eqB w d hk
      have gx : xs[i]? = some u := by
        have := congrArg (·[0]?) hx
        simpa using this
      have gy : ys[i]? = some v := by
        have := congrArg (·[0]?) hy
        simpa using this
      have nx : xs.toList.drop (i + 1) = us := by
        have := congrArg (·.drop 1) hx
        simpa using this
      have ny : ys.toList.drop (i + 1) = vs := by
        have := congrArg (·.drop 1) hy
        simpa using this
      have ih := run_eqF w d xs ys fs (i + 1) us vs nx ny hr
      simp only [Op.eqFields, hn, ne_eq, not_false_eq_true, if_true, Sem.run_bind, ho, run_part_plain w hp gx, run_part_plain w hp gy, he, Result.andThen_ok, eqL]
      cases eqB u v
      · simp
      · simpa using ih
theorem run_eqT (w : World) {t : TypeId} {us vs : List Value} (hf : fitT P t us vs = true) : P.eqGuardType P.depth t = false ∧ (Op.equalIn 10000 t (.agg us.toArray) (.agg vs.toArray)).run P w = .ok (eqL us vs) w := by
  unfold fitT at hf
  split at hf
  · rename_i fs hu
    simp only [Bool.and_eq_true, Bool.not_eq_true'] at hf
    obtain ⟨⟨h1, h2⟩, h3⟩ := hf
    refine ⟨h3, ?_⟩
    have hfs : P.fieldsOf t = fs := by simp [Program.fieldsOf, hu]
    have := run_equalIn_struct (P := P) w 9999 t us.toArray vs.toArray (by rw [hfs]; exact hu) h2
    rw [hfs] at this
    rw [show (10000 : Nat) = 9999 + 1 from rfl, this]
    exact run_eqF w 9998 us.toArray vs.toArray fs.toList 0 us vs rfl rfl h1
  · cases hf
theorem opNeq {h : Heap} {t : TypeId} {x y : Operand} {us vs : List Value} {K : Bool → Prop} (hf : fitT P t us vs = true) (hK : K (!eqL us vs)) :
    OpV P (do eqGuard .neq t x y (.agg us.toArray) (.agg vs.toArray); binOp .neq t (.agg us.toArray) (.agg vs.toArray)) h [.one .bool] K := by
  refine ⟨(!eqL us vs, ()), fun w hw => ⟨w, ?_, Env.refl w, hw⟩, hK⟩
  obtain ⟨h1, h2⟩ := run_eqT w hf
  rw [Sem.run_bind, run_eqGuard_agg w .neq t x y _ _ h1, Result.andThen_ok, run_neq_struct, h2, Result.andThen_ok]
  rfl
theorem opEql {h : Heap} {t : TypeId} {x y : Operand} {us vs : List Value} {K : Bool → Prop} (hf : fitT P t us vs = true) (hK : K (eqL us vs)) :
    OpV P (do eqGuard .eql t x y (.agg us.toArray) (.agg vs.toArray); binOp .eql t (.agg us.toArray) (.agg vs.toArray)) h [.one .bool] K := by
  refine ⟨(eqL us vs, ()), fun w hw => ⟨w, ?_, Env.refl w, hw⟩, hK⟩
  obtain ⟨h1, h2⟩ := run_eqT w hf
  rw [Sem.run_bind, run_eqGuard_agg w .eql t x y _ _ h1, Result.andThen_ok, run_eql_struct, h2, Result.andThen_ok]
  rfl
end
end Go.Proofs.YtniojdaddolnfaaGreat

/- Printed by a program: what each function asks of the heap, that this is the reading of its code, and what follows for a call. -/
set_option maxRecDepth 1000000
namespace Go.Proofs.YtniojdaddolnfaaGreat
open Go

/-- frame.All -/
def S_frame_All (b : Sl) (h : Heap) (R : Sl → Int → Int → Heap → Prop) : Prop :=
  Loop [.one .sl, .one (.int .i64)] (fun _ (out : Sl) (at_ : Int) h_ go =>
    (bif decide (at_ < (b.n : Int)) then
      Cut Tryz.prog 75 b (some (.int .i64 at_)) none none fun s =>
      C_frame_Take s h_ fun (r : Sl) (r1 : Int) (r2 : Int) h_1 =>
      (bif r2 != 0 then
        R out at_ r2 h_1
      else
        Alloc h_1 (.cells #[.slice r.a r.n r.c] 75) fun b1 h_2 =>
        App Tryz.prog 127 127 out ⟨some b1, 1, 1⟩ h_2 fun s1 h_3 =>
        Let (IntKind.i64.wrap (at_ + r1) : Int) fun at_1 =>
        go s1 at_1 h_3
      )
    else
      R out at_ 0 h_
    )
    ) (⟨none, 0, 0⟩, 0, ()) h
theorem E_frame_All (b : Sl) (h : Heap) (R : Sl → Int → Int → Heap → Prop) :
    VF Tryz.prog [(60, [(5, .one .sl), (6, .one (.int .i64))])] Tryz.f87 [.slice b.a b.n b.c] h [.one .sl, .one (.int .i64), .one (.int .i64)] R = S_frame_All b h R := by kernel_rfl
theorem A_frame_All {b : Sl} {h : Heap} {R : Sl → Int → Int → Heap → Prop} (hs : S_frame_All b h R) : C_frame_All b h R :=
  use_ Tryz.func87 (by kernel_rfl) (E_frame_All b h R) hs

/-- frame.Size -/
def S_frame_Size (n : Int) (h : Heap) (R : Int → Heap → Prop) : Prop :=
  R (IntKind.i64.wrap ((IntKind.i64.wrap (4 + (if 0 > n then 0 else n))) + 4)) h
theorem E_frame_Size (n : Int) (h : Heap) (R : Int → Heap → Prop) :
    VF Tryz.prog [] Tryz.f88 [.int .i64 n] h [.one (.int .i64)] R = S_frame_Size n h R := by kernel_rfl
theorem A_frame_Size {n : Int} {h : Heap} {R : Int → Heap → Prop} (hs : S_frame_Size n h R) : C_frame_Size n h R :=
  use_ Tryz.func88 (by kernel_rfl) (E_frame_Size n h R) hs

/-- frame.Take -/
def S_frame_Take (b : Sl) (h : Heap) (R : Sl → Int → Int → Heap → Prop) : Prop :=
  (bif decide ((b.n : Int) < 4) then
    R ⟨none, 0, 0⟩ 0 2 h
  else
    Ix b 0 1 fun e =>
    Ld (.int .u8) h e fun (x : Int) =>
    Nneg 8 (
    Ix b 1 1 fun e1 =>
    Ld (.int .u8) h e1 fun (x1 : Int) =>
    Let (bitV .or .i64 (shiftV .shl .i64 (IntKind.i64.wrap x) 8) (IntKind.i64.wrap x1) : Int) fun n =>
    Join [] (fun _ h_ =>
      Cut Tryz.prog 75 b (some (.int .i64 4)) (some (.int .i64 (IntKind.i64.wrap (4 + n)))) none fun s =>
      C_frame_Size n h_ fun (r : Int) h_1 =>
      Cut Tryz.prog 75 b (some (.int .i64 (IntKind.i64.wrap (4 + n)))) (some (.int .i64 r)) none fun s1 =>
      C_crc_Check s s1 h_1 fun (r1 : Bool) h_2 =>
      (bif !r1 then
        R ⟨none, 0, 0⟩ 0 3 h_2
      else
        C_bytes_Clone s h_2 fun (r2 : Sl) h_3 =>
        C_frame_Size n h_3 fun (r3 : Int) h_4 =>
        R r2 r3 0 h_4
      )
      ) fun J =>
    Ix b 0 1 fun e2 =>
    Ld (.int .u8) h e2 fun (x2 : Int) =>
    Ix b 2 1 fun e3 =>
    Ld (.int .u8) h e3 fun (x3 : Int) =>
    (bif (bitV .xor .u8 x2 x3) != 255 then
      R ⟨none, 0, 0⟩ 0 3 h
    else
      Ix b 1 1 fun e4 =>
      Ld (.int .u8) h e4 fun (x4 : Int) =>
      Ix b 3 1 fun e5 =>
      Ld (.int .u8) h e5 fun (x5 : Int) =>
      (bif (bitV .xor .u8 x4 x5) != 255 then
        R ⟨none, 0, 0⟩ 0 3 h
      else
        (bif decide (n > 4096) then
          R ⟨none, 0, 0⟩ 0 4 h
        else
          C_frame_Size n h fun (r4 : Int) h_5 =>
          (bif decide ((b.n : Int) < r4) then
            R ⟨none, 0, 0⟩ 0 2 h_5
          else
            J  h_5
          )
        )
      )
    )
    )
  )
theorem E_frame_Take (b : Sl) (h : Heap) (R : Sl → Int → Int → Heap → Prop) :
    VF Tryz.prog [(30, [])] Tryz.f109 [.slice b.a b.n b.c] h [.one .sl, .one (.int .i64), .one (.int .i64)] R = S_frame_Take b h R := by kernel_rfl
theorem A_frame_Take {b : Sl} {h : Heap} {R : Sl → Int → Int → Heap → Prop} (hs : S_frame_Take b h R) : C_frame_Take b h R :=
  use_ Tryz.func109 (by kernel_rfl) (E_frame_Take b h R) hs

/-- frame.Put -/
def S_frame_Put (b : Sl) (payload : Sl) (h : Heap) (R : Sl → Int → Heap → Prop) : Prop :=
  Let ((payload.n : Int) : Int) fun n =>
  (bif decide (n > 4096) then
    R ⟨none, 0, 0⟩ 4 h
  else
    Nneg 8 (
    Let (IntKind.u8.wrap (shiftV .shr .i64 n 8) : Int) fun h_ =>
    Let (IntKind.u8.wrap n : Int) fun l =>
    Alloc h (.cells #[.int .u8 h_, .int .u8 l, .int .u8 (IntKind.u8.wrap (255 - h_)), .int .u8 (IntKind.u8.wrap (255 - l))] 5) fun b1 h_1 =>
    App Tryz.prog 75 75 b ⟨some b1, 4, 4⟩ h_1 fun s h_2 =>
    App Tryz.prog 75 75 s payload h_2 fun s1 h_3 =>
    C_crc_Of payload h_3 fun (r : Int) h_4 =>
    C_crc_Bytes r h_4 fun (r1 : Sl) h_5 =>
    App Tryz.prog 75 75 s1 r1 h_5 fun s2 h_6 =>
    R s2 0 h_6
    )
  )
theorem E_frame_Put (b : Sl) (payload : Sl) (h : Heap) (R : Sl → Int → Heap → Prop) :
    VF Tryz.prog [] Tryz.f124 [.slice b.a b.n b.c, .slice payload.a payload.n payload.c] h [.one .sl, .one (.int .i64)] R = S_frame_Put b payload h R := by kernel_rfl
theorem A_frame_Put {b : Sl} {payload : Sl} {h : Heap} {R : Sl → Int → Heap → Prop} (hs : S_frame_Put b payload h R) : C_frame_Put b payload h R :=
  use_ Tryz.func124 (by kernel_rfl) (E_frame_Put b payload h R) hs

end Go.Proofs.YtniojdaddolnfaaGreat

/-
  Layer 3 (frame): contracts of the program's calls, and of the document's.
-/
namespace Go.Proofs.YtniojdaddolnfaaGreat
open Go

theorem xor_all8 {r : Nat} (h : r < 256) : 255 ^^^ r = 255 - r := by
  have h1 := BitVec.xor_allOnes (x := BitVec.ofNat 8 r)
  have h2 := congrArg BitVec.toNat h1
  rw [BitVec.toNat_xor, BitVec.toNat_not, BitVec.toNat_ofNat, Nat.mod_eq_of_lt h, BitVec.toNat_allOnes] at h2
  rw [Nat.xor_comm]
  simpa using h2
theorem x255 {a c : Nat} (ha : a < 256) (_hc : c < 256) : a ^^^ c = 255 ↔ a + c = 255 := by
  constructor
  · intro h
    have h2 : c = 255 ^^^ a := by rw [← h, Nat.xor_comm a c, Nat.xor_assoc, Nat.xor_self, Nat.xor_zero]
    rw [xor_all8 ha] at h2
    omega
  · intro h
    have h2 : c = 255 ^^^ a := by rw [xor_all8 ha]; omega
    rw [h2, Nat.xor_comm 255, ← Nat.xor_assoc, Nat.xor_self, Nat.zero_xor]
theorem four {l : List UInt8} (h : 4 ≤ l.length) : ∃ a b c d r, l = a :: b :: c :: d :: r := by
  match l, h with
  | a :: b :: c :: d :: r, _ => exact ⟨a, b, c, d, r, rfl⟩
theorem takeM_short {l : List UInt8} (h : l.length < 4) : takeM l = ([], 0, eForm) := by
  match l, h with
  | [], _ => rfl
  | [_], _ => rfl
  | [_, _], _ => rfl
  | [_, _, _], _ => rfl
section
variable {h : Heap}
theorem frame_Size_ok {n : Int} {R : Int → Heap → Prop} (h0 : 0 ≤ n) (hn : n ≤ 1000000000000) (hR : R (n + 8) h) : C_frame_Size n h R := by
  refine A_frame_Size ?_
  unfold S_frame_Size
  rw [if_neg (by omega), w64 (n := 4 + n) (by omega) (by omega), w64 (by omega) (by omega), show 4 + n + 4 = n + 8 by omega]
  exact hR
set_option maxRecDepth 100000 in
theorem frame_Take_ok {b : Sl} {l : List UInt8} {R : Sl → Int → Int → Heap → Prop} (hb : RdS h 1 b (cB l)) (hbc : b.n ≤ b.c) (hl : l.length ≤ 1000000000000)
    (hR : ∀ r h', Own h' 1 r (cB (takeM l).1) → r.from_ h.size → Ext h.size h h' → R r ((takeM l).2.1 : Nat) (takeM l).2.2 h') : C_frame_Take b h R := by
  refine A_frame_Take ?_
  unfold S_frame_Take
  have hn := rd_b hb
  have bad : ∀ e : Int, takeM l = ([], 0, e) → R ⟨none, 0, 0⟩ 0 e h := fun e he => by
    have := hR ⟨none, 0, 0⟩ h (by rw [he]; exact Own.nil _ _) (fun g hg => by simp [Sl.blk] at hg) (Ext.refl _ _)
    rwa [he] at this
  refine brD (fun hc => bad _ (takeM_short (by omega))) fun hc => ?_
  obtain ⟨a, b1, c, d, r, rfl⟩ := four (l := l) (by omega)
  · have ha := a.toNat_lt
    have hb1 := b1.toNat_lt
    have hc0 := c.toNat_lt
    have hd := d.toNat_lt
    simp only [List.length_cons] at hn hl
    refine ixcB hb 0 rfl (by simp) (nneg (by decide) (ixcB hb 1 rfl (by simp) ?_))
    simp only [List.getElem_cons_zero, List.getElem_cons_succ]
    rw [shl_or_i64 (by omega) (by omega)]
    refine let_ ?_
    have tc := takeM_cons a b1 c d r
    refine join0 (fun h' => h' = h ∧ (a.toNat + c.toNat = 255 ∧ b1.toNat + d.toNat = 255) ∧ a.toNat * 256 + b1.toNat ≤ 4096 ∧ a.toNat * 256 + b1.toNat + 4 ≤ r.length) (fun _ h' hJ => ?_) ?_
    · obtain ⟨rfl, h1, h2, h3⟩ := hJ
      rw [if_pos h1, if_neg (by omega), if_neg (by omega)] at tc
      generalize hN : a.toNat * 256 + b1.toNat = n at *
      rw [w64 (by omega) (by omega)]
      refine cutB hb 4 (4 + n) b.c (loi rfl) (hii (by omega)) (.inl ⟨rfl, rfl⟩) (by omega) (by simp; omega) (by omega) (Nat.le_refl _) fun s r1 n1 c1 bl1 => ?_
      refine frame_Size_ok (by omega) (by omega) ?_
      refine cutB hb (4 + n) (n + 8) b.c (loi (by omega)) (hii (by omega)) (.inl ⟨rfl, rfl⟩) (by omega) (by simp; omega) (by omega) (Nat.le_refl _) fun s2 r2 n2 c2 bl2 => ?_
      have e1 : ((a :: b1 :: c :: d :: r).drop 4).take (4 + n - 4) = r.take n := by rw [show 4 + n - 4 = n by omega]; rfl
      have e2 : ((a :: b1 :: c :: d :: r).drop (4 + n)).take (n + 8 - (4 + n)) = (r.drop n).take 4 := by
        rw [show n + 8 - (4 + n) = 4 by omega, show 4 + n = n + 1 + 1 + 1 + 1 by omega]; rfl
      rw [e1] at r1
      rw [e2] at r2
      refine crc_Check_ok r1 r2 (by rw [List.length_take]; omega) fun h2 e2 => ?_
      refine brB (fun hno => ?_) fun hyes => ?_
      · rw [if_neg (by simpa using hno)] at tc
        have := hR ⟨none, 0, 0⟩ h2 (by rw [tc]; exact Own.nil _ _) (fun g hg => by simp [Sl.blk] at hg) e2
        rwa [tc] at this
      · rw [if_pos (by simpa using hyes)] at tc
        refine bytes_Clone_ok (r1.ext' e2) (by rw [List.length_take]; omega) fun r3 h3 o3 f3 e3 => ?_
        refine frame_Size_ok (by omega) (by omega) ?_
        have := hR r3 h3 (by rw [tc]; exact o3) (fun g hg => Nat.le_trans e2.1 (f3 g hg)) (e2.trans (e3.mono e2.1))
        rw [tc] at this
        have e8 : ((n + 8 : Nat) : Int) = (n : Int) + 8 := by omega
        rw [← e8]; exact this
    · refine ixcB hb 0 rfl (by simp) (ixcB hb 2 rfl (by simp) ?_)
      simp only [List.getElem_cons_zero, List.getElem_cons_succ]
      rw [xor_u8' (by omega) (by omega)]
      refine brB (fun hx => ?_) fun hx => ?_
      · rw [if_neg fun hh => by rw [(x255 (by omega) (by omega)).2 hh.1] at hx; simp at hx] at tc
        exact bad _ tc
      have hx1 : a.toNat + c.toNat = 255 := (x255 (by omega) (by omega)).1 (Int.ofNat.inj (by simpa using hx))
      refine ixcB hb 1 rfl (by simp) (ixcB hb 3 rfl (by simp) ?_)
      simp only [List.getElem_cons_zero, List.getElem_cons_succ]
      rw [xor_u8' (by omega) (by omega)]
      refine brB (fun hx => ?_) fun hx => ?_
      · rw [if_neg fun hh => by rw [(x255 (by omega) (by omega)).2 hh.2] at hx; simp at hx] at tc
        exact bad _ tc
      have hx2 : b1.toNat + d.toNat = 255 := (x255 (by omega) (by omega)).1 (Int.ofNat.inj (by simpa using hx))
      rw [if_pos ⟨hx1, hx2⟩] at tc
      refine brD (fun hgt => ?_) fun hgt => ?_
      · rw [if_pos (by omega)] at tc; exact bad _ tc
      rw [if_neg (by omega)] at tc
      refine frame_Size_ok (by omega) (by omega) (brD (fun hlt => ?_) fun hlt => ⟨rfl, ⟨hx1, hx2⟩, by omega, by omega⟩)
      rw [if_pos (by omega)] at tc
      exact bad _ tc
/-! ## Put -/
def hdrB (p : List UInt8) : List UInt8 := [hiB p, loB p, 255 - hiB p, 255 - loB p]
theorem hdr_cells {n : Nat} {p : List UInt8} (hn : n = p.length) (hp : p.length < 65536) {x y : Int} (hx : x = (n : Int) / 256) (hy : y % 256 = (n : Int) % 256) :
    ([.int .u8 (IntKind.u8.wrap x), .int .u8 (IntKind.u8.wrap y), .int .u8 (IntKind.u8.wrap (255 - IntKind.u8.wrap x)), .int .u8 (IntKind.u8.wrap (255 - IntKind.u8.wrap y))] : List Value) = cB (hdrB p) := by
  have h1 := hi_nat hp
  have h2 := lo_nat p
  have s1 := sub255 (hiB p)
  have s2 := sub255 (loB p)
  have e1 : IntKind.u8.wrap x = ((hiB p).toNat : Nat) := by rw [wrU8]; omega
  have e2 : IntKind.u8.wrap y = ((loB p).toNat : Nat) := by rw [wrU8]; omega
  have e3 : IntKind.u8.wrap (255 - ((hiB p).toNat : Int)) = ((255 - hiB p).toNat : Nat) := by rw [wrU8]; omega
  have e4 : IntKind.u8.wrap (255 - ((loB p).toNat : Int)) = ((255 - loB p).toNat : Nat) := by rw [wrU8]; omega
  rw [e1, e2, e3, e4]
  rfl
theorem frameM_eq (p : List UInt8) : hdrB p ++ p ++ le4 (crcOf p) = frameM p := by simp [hdrB, frameM]
theorem frame_Put_ok {b q : Sl} {x p : List UInt8} {R : Sl → Int → Heap → Prop} (hb : Own h 1 b (cB x)) (hq : RdS h 1 q (cB p)) (hd : p ≠ [] → ∀ g, q.blk = some g → b.blk ≠ some g) (hx : x.length ≤ 1000000000)
    (h1 : 4096 < p.length → R ⟨none, 0, 0⟩ 4 h) (h2 : p.length ≤ 4096 → ∀ r h', Own h' 1 r (cB (x ++ frameM p)) → Grw h b h' r → R r 0 h') : C_frame_Put b q h R := by
  refine A_frame_Put ?_
  unfold S_frame_Put
  have hn := rd_b hq
  refine let_ (brD (fun hc => h1 (by omega)) fun hc => nneg (by decide) (let_ (let_ ?_)))
  have q1 := shr8_i64 (q.n : Int)
  rw [q1]
  have hcl := hdr_cells hn (by omega) (x := (q.n : Int) / 256) (y := (q.n : Int)) rfl rfl
  refine alloc (cs := _) fun h1' b1 e1 z1 => ?_
  rw [hcl] at b1
  have o1 : Own h1' 1 ⟨some ⟨h.size, 0, none⟩, 4, 4⟩ (cB (hdrB p)) := Own.full b1 (sz := 1) (n := 4) (by rfl) (by decide)
  have hne : 0 < (cB p).length → ∀ g, q.blk = some g → b.blk ≠ some g := fun h0 => hd fun e => by rw [e] at h0; simp [cB] at h0
  refine appB (hb.ext' e1) o1.rd (by simp [hdrB]; omega) fun s2 h2' o2 g2 => ?_
  have q2 : RdS h2' 1 q (cB p) := (hq.ext' e1).upd' g2.upd fun h0 g hg => hne h0 g hg
  have G2 : Grw h b h2' s2 := (Grw.of_ext b e1).trans g2
  have hne2 : 0 < (cB p).length → ∀ g, q.blk = some g → s2.blk ≠ some g := fun h0 g hg e => by
    rcases G2.blk with e2 | e2
    · exact hne h0 g hg (by rw [← e2]; exact e)
    · have := e2 g e
      have := hq.below h0 g hg
      omega
  refine appB o2 q2 (by simp [hdrB]; omega) fun s3 h3' o3 g3 => ?_
  have q3 : RdS h3' 1 q (cB p) := q2.upd' g3.upd fun h0 g hg => hne2 h0 g hg
  have G3 := G2.trans g3
  refine crc_Of_ok q3 (by omega) fun h4 e4 => crc_Bytes_ok (crcOf_lt _) fun r5 h5 o5 f5 e5 => ?_
  have G4 := G3.trans (Grw.of_ext s3 e4)
  have G5 := G4.trans (Grw.of_ext s3 e5)
  refine appB ((o3.ext' e4).ext' e5) o5.rd (by simp [hdrB, le4_length]; omega) fun s6 h6 o6 g6 => ?_
  have e : x ++ hdrB p ++ p ++ le4 (crcOf p) = x ++ frameM p := by rw [← frameM_eq]; simp
  rw [e] at o6
  exact h2 (by omega) s6 h6 o6 (G5.trans g6)
/-! ## The document's Take -/
theorem head_eq {a b c d : UInt8} {p : List UInt8} (hp : p.length = a.toNat * 256 + b.toNat) (h1 : a.toNat + c.toNat = 255) (h2 : b.toNat + d.toNat = 255) : frameM p = a :: b :: c :: d :: (p ++ le4 (crcOf p)) := by
  have ha := a.toNat_lt
  have hb := b.toNat_lt
  have e1 : hiB p = a := UInt8.toNat_inj.1 (by rw [hi_nat (by omega)]; omega)
  have e2 : loB p = b := UInt8.toNat_inj.1 (by rw [lo_nat]; omega)
  have e3 : 255 - hiB p = c := UInt8.toNat_inj.1 (by rw [sub255, e1]; omega)
  have e4 : 255 - loB p = d := UInt8.toNat_inj.1 (by rw [sub255, e2]; omega)
  unfold frameM
  rw [e3, e4, e1, e2]
/-! ## All -/
structure BA where
  s : Sl
  xs : List UInt8
def eBA : Enc BA 1 := ⟨fun a => [a.s.v], fun _ => rfl, by decide, fun x u hu => by simp only [List.mem_singleton] at hu; subst hu; rfl⟩
/-- Slices of bytes, all of them behind B, apart from the block that lists them. -/
def RdBs (h : Heap) (B : Nat) (out : Sl) (bs : List BA) : Prop := RdS h 1 out (eBA.fl bs) ∧ ∀ a ∈ bs, RdS h 1 a.s (cB a.xs) ∧ a.s.from_ B
end
end Go.Proofs.YtniojdaddolnfaaGreat

/-
  Layer 3 (frame): all frames of a text of bytes, by the program and by the document.
-/
namespace Go.Proofs.YtniojdaddolnfaaGreat
open Go

theorem TBB : ElemT Tryz.prog 127 75 1 24 := .of (by kernel_rfl)
theorem allM_step {l : List UInt8} {f : Nat} {ps : List (List UInt8)} {a : Nat} (h : a < l.length) (hf : l.length < f + a) : allM l f ps a =
    if (takeM (l.drop a)).2.2 ≠ 0 then (ps, a, (takeM (l.drop a)).2.2) else allM l (f - 1) (ps ++ [(takeM (l.drop a)).1]) (a + (takeM (l.drop a)).2.1) := by
  obtain ⟨f, rfl⟩ : ∃ g, f = g + 1 := ⟨f - 1, by omega⟩
  rw [allM, if_pos h]; rfl
theorem allM_done {l : List UInt8} {f : Nat} {ps : List (List UInt8)} {a : Nat} (h : ¬ a < l.length) : allM l f ps a = (ps, a, 0) := by
  cases f with
  | zero => rfl
  | succ f => rw [allM, if_neg h]
def BAx (l : List BA) : List (List UInt8) := l.map (·.xs)
/-- Bytes in a row, as a call hands them back. -/
def OutB (B : Nat) (h : Heap) (out : Sl) (bs : List BA) : Prop := Own h 1 out (eBA.fl bs) ∧ out.from_ B ∧ ∀ a ∈ bs, RdS h 1 a.s (cB a.xs) ∧ a.s.from_ B ∧ (a.xs ≠ [] → ∀ g, a.s.blk = some g → out.blk ≠ some g) ∧ a.s.n ≤ a.s.c
theorem OutB.ext {B : Nat} {h h' : Heap} {out : Sl} {bs : List BA} (ho : OutB B h out bs) (he : Ext h.size h h') : OutB B h' out bs :=
  ⟨ho.1.ext' he, ho.2.1, fun a ha => ⟨(ho.2.2 a ha).1.ext' he, (ho.2.2 a ha).2⟩⟩
theorem OutB.nil (B : Nat) (h : Heap) : OutB B h ⟨none, 0, 0⟩ [] := ⟨Own.nil _ _, (fun g hg => by simp [Sl.blk] at hg), fun a ha => by cases ha⟩
/-- One more. -/
theorem OutB.app {B : Nat} {h : Heap} {out : Sl} {bs : List BA} {r : Sl} {xs : List UInt8} {ty : TypeId} {K : Sl → Heap → Prop} (ho : OutB B h out bs) (hB : B ≤ h.size) (hr : RdS h 1 r (cB xs)) (hf : r.from_ B) (hd : xs ≠ [] → ∀ g, r.blk = some g → out.blk ≠ some g) (hrc : r.n ≤ r.c)
    (hlen : bs.length ≤ 1000000000000) (hk : ∀ s' h', OutB B h' s' (bs ++ [⟨r, xs⟩]) → Grw h out h' s' → Ext B h h' → K s' h') :
    Alloc h (.cells #[.slice r.a r.n r.c] 75) fun b h1 => App Tryz.prog 127 ty out ⟨some b, 1, 1⟩ h1 K := by
  obtain ⟨o, f, ha⟩ := ho
  refine app1 (E := eBA) TBB ⟨r, xs⟩ o (by omega) (by omega) fun s' h' o' g' => hk s' h' ⟨o', g'.from_ f hB, fun a hm => ?_⟩ g' (g'.ext f hB)
  have one : ∀ (s : Sl) (ys : List UInt8), RdS h 1 s (cB ys) → (ys ≠ [] → ∀ g, s.blk = some g → out.blk ≠ some g) → RdS h' 1 s (cB ys) ∧ (ys ≠ [] → ∀ g, s.blk = some g → s'.blk ≠ some g) := fun s ys hs hd => by
    refine ⟨hs.upd' g'.upd fun h0 g hg => hd (fun e => by rw [e] at h0; simp [cB] at h0) g hg, fun h0 g hg e => ?_⟩
    rcases g'.blk with e2 | e2
    · exact hd h0 g hg (by rw [← e2]; exact e)
    · have := e2 g e
      have := hs.belowB h0 g hg
      omega
  rcases List.mem_append.1 hm with hm | hm
  · obtain ⟨a1, a2, a3, a4⟩ := ha a hm
    obtain ⟨b1, b2⟩ := one _ _ a1 a3
    exact ⟨b1, a2, b2, a4⟩
  · simp only [List.mem_singleton] at hm
    subst hm
    obtain ⟨b1, b2⟩ := one _ _ hr hd
    exact ⟨b1, hf, b2, hrc⟩
theorem all_loop {h : Heap} {b : Sl} {l : List UInt8} {R : Sl → Int → Int → Heap → Prop} (T : Sl → Heap → (Sl → Int → Int → Heap → Prop) → Prop)
    (hT : ∀ (s : Sl) (h : Heap) (l : List UInt8) (R : Sl → Int → Int → Heap → Prop), RdS h 1 s (cB l) → s.n ≤ s.c → l.length ≤ 1000000000000 →
      (∀ r h', Own h' 1 r (cB (takeM l).1) → r.from_ h.size → Ext h.size h h' → R r ((takeM l).2.1 : Nat) (takeM l).2.2 h') → T s h R)
    (hb : RdS h 1 b (cB l)) (hbc : b.n ≤ b.c) (hl : l.length ≤ 1000000000)
    (hR : ∀ out bs h', OutB h.size h' out bs → BAx bs = (allM l (l.length + 1) [] 0).1 → Ext h.size h h' → R out ((allM l (l.length + 1) [] 0).2.1 : Nat) (allM l (l.length + 1) [] 0).2.2 h') :
    Loop [.one .sl, .one (.int .i64)] (fun _ (out : Sl) (at_ : Int) h_ go =>
    (bif decide (at_ < (b.n : Int)) then
      Cut Tryz.prog 75 b (some (.int .i64 at_)) none none fun s =>
      T s h_ fun (r : Sl) (r1 : Int) (r2 : Int) h_1 =>
      (bif r2 != 0 then
        R out at_ r2 h_1
      else
        Alloc h_1 (.cells #[.slice r.a r.n r.c] 75) fun b1 h_2 =>
        App Tryz.prog 127 127 out ⟨some b1, 1, 1⟩ h_2 fun s1 h_3 =>
        Let (IntKind.i64.wrap (at_ + r1) : Int) fun at_1 =>
        go s1 at_1 h_3
      )
    else
      R out at_ 0 h_
    )
    ) (⟨none, 0, 0⟩, 0, ()) h := by
  have hn := rd_b hb
  refine loop2 (s1 := .one .sl) (s2 := .one (.int .i64)) (fun (out : Sl) (x : Int) h1 => ∃ (bs : List BA) (a f : Nat), x = a ∧ a ≤ l.length ∧ OutB h.size h1 out bs ∧ Ext h.size h h1 ∧ bs.length ≤ a ∧ l.length < f + a ∧ allM l f (BAx bs) a = allM l (l.length + 1) [] 0) (fun _ (x : Int) _ => (l.length - x).toNat)
    ⟨[], 0, l.length + 1, rfl, by omega, OutB.nil _ _, Ext.refl _ _, Nat.zero_le _, by omega, rfl⟩ fun _ (out : Sl) (x : Int) h1 hI => ?_
  obtain ⟨bs, a, f, rfl, ha, ho, he, hbs, hf, hm⟩ := hI
  refine brD (fun hc => ?_) fun hc => ?_
  · have ha2 : a < l.length := by omega
    rw [allM_step ha2 hf] at hm
    refine cutB (hb.ext' he) a l.length b.c (loi rfl) (.inl ⟨rfl, by omega⟩) (.inl ⟨rfl, rfl⟩) (by omega) (Nat.le_refl _) (by omega) (Nat.le_refl _) fun s r n c bl => ?_
    rw [List.take_of_length_le (by rw [List.length_drop]; omega)] at r
    refine hT s h1 (l.drop a) _ r (by omega) (by rw [List.length_drop]; omega) fun r2 h2 o2 f2 e2 => ?_
    refine brB (fun hne => ?_) fun hz => ?_
    · rw [if_pos (by simpa using hne)] at hm
      have := hR out bs h2 (ho.ext e2) (by rw [← hm]) (he.trans (e2.mono he.1))
      rw [← hm] at this
      exact this
    · have hz' : (takeM (l.drop a)).2.2 = 0 := by simpa using hz
      rw [if_neg (by rw [hz']; exact fun x => x rfl)] at hm
      obtain ⟨t1, t2, t3, t4⟩ := takeM_ok hz'
      rw [List.length_drop] at t2
      have hle := he.1
      refine (ho.ext e2).app (Nat.le_trans hle e2.1) o2.rd (fun g hg => by have := f2 g hg; omega) (fun _ g hg e => by have := f2 g hg; have := ho.1.below g e; omega) o2.2.1 (by omega) fun s3 h3 o3 g3 e3 => let_ ?_
      rw [w64 (by omega) (by omega)]
      refine ⟨⟨_, a + (takeM (l.drop a)).2.1, f - 1, by omega, by omega, o3, (he.trans (e2.mono hle)).trans e3, by rw [List.length_append]; simp; omega, by omega, ?_⟩, by omega⟩
      rw [← hm]
      simp [BAx]
  · have : a = l.length := by omega
    subst this
    rw [allM_done (by omega)] at hm
    have := hR out bs h1 ho (by rw [← hm]) he
    rw [← hm] at this
    exact this
theorem frame_All_ok {h : Heap} {b : Sl} {l : List UInt8} {R : Sl → Int → Int → Heap → Prop} (hb : RdS h 1 b (cB l)) (hbc : b.n ≤ b.c) (hl : l.length ≤ 1000000000)
    (hR : ∀ out bs h', OutB h.size h' out bs → BAx bs = (allM l (l.length + 1) [] 0).1 → Ext h.size h h' → R out ((allM l (l.length + 1) [] 0).2.1 : Nat) (allM l (l.length + 1) [] 0).2.2 h') : C_frame_All b h R := by
  refine A_frame_All ?_
  unfold S_frame_All
  exact all_loop (fun s h R => C_frame_Take s h R) (fun s h l R => frame_Take_ok) hb hbc hl hR
end Go.Proofs.YtniojdaddolnfaaGreat

/- Printed by a program: what each function asks of the heap, that this is the reading of its code, and what follows for a call. -/
set_option maxRecDepth 1000000
namespace Go.Proofs.YtniojdaddolnfaaGreat
open Go

/-- wal.Recover -/
def S_wal_Recover (d : Option Addr) (h : Heap) (R : Sl → Int → Heap → Prop) : Prop :=
  (bif d.isNone then
    R ⟨none, 0, 0⟩ 1 h
  else
    C_disk_Disk_Bytes d h fun (r : Sl) h_ =>
    C_wal_Read r h_ fun (r1 : Sl) (r2 : Int) (r3 : Int) h_1 =>
    C_disk_Disk_Synced d h_1 fun (r4 : Int) h_2 =>
    (bif decide (r2 < r4) then
      R ⟨none, 0, 0⟩ 3 h_2
    else
      C_disk_Disk_Cut d r2 h_2 fun (r5 : Int) h_3 =>
      R r1 0 h_3
    )
  )
theorem E_wal_Recover (d : Option Addr) (h : Heap) (R : Sl → Int → Heap → Prop) :
    VF Tryz.prog [] Tryz.f36 [.pointer d] h [.one .sl, .one (.int .i64)] R = S_wal_Recover d h R := by kernel_rfl
theorem A_wal_Recover {d : Option Addr} {h : Heap} {R : Sl → Int → Heap → Prop} (hs : S_wal_Recover d h R) : C_wal_Recover d h R :=
  use_ Tryz.func36 (by kernel_rfl) (E_wal_Recover d h R) hs

/-- wal.Read -/
def S_wal_Read (b : Sl) (h : Heap) (R : Sl → Int → Int → Heap → Prop) : Prop :=
  C_frame_All b h fun (r : Sl) (r1 : Int) (r2 : Int) h_ =>
  Loop [.one .sl, .one (.int .i64), .one (.int .i64)] (fun _ (out : Sl) (at_ : Int) (x20 : Int) h_1 go =>
    (bif decide (x20 < (r.n : Int)) then
      Ix r x20 1 fun e =>
      Ld .sl h_1 e fun (x : Sl) =>
      (bif (x.n : Int) == 0 then
        R out at_ 2 h_1
      else
        Ix x 0 1 fun e1 =>
        Ld (.int .u8) h_1 e1 fun (x1 : Int) =>
        (bif x1 == 0 then
          R out at_ 2 h_1
        else
          Ix x 0 1 fun e2 =>
          Ld (.int .u8) h_1 e2 fun (x2 : Int) =>
          Cut Tryz.prog 75 x (some (.int .i64 1)) none none fun s =>
          Alloc h_1 (.cells #[.int .u8 x2, .slice s.a s.n s.c] 109) fun b1 h_2 =>
          App Tryz.prog 78 78 out ⟨some b1, 1, 1⟩ h_2 fun s1 h_3 =>
          C_frame_Size (x.n : Int) h_3 fun (r3 : Int) h_4 =>
          Let (IntKind.i64.wrap (at_ + r3) : Int) fun at_1 =>
          go s1 at_1 (IntKind.i64.wrap (x20 + 1)) h_4
        )
      )
    else
      R out at_ r2 h_1
    )
    ) (⟨none, 0, 0⟩, 0, 0, ()) h_
theorem E_wal_Read (b : Sl) (h : Heap) (R : Sl → Int → Int → Heap → Prop) :
    VF Tryz.prog [(250, [(5, .one .sl), (9, .one (.int .i64)), (20, .one (.int .i64))])] Tryz.f58 [.slice b.a b.n b.c] h [.one .sl, .one (.int .i64), .one (.int .i64)] R = S_wal_Read b h R := by kernel_rfl
theorem A_wal_Read {b : Sl} {h : Heap} {R : Sl → Int → Int → Heap → Prop} (hs : S_wal_Read b h R) : C_wal_Read b h R :=
  use_ Tryz.func58 (by kernel_rfl) (E_wal_Read b h R) hs

/-- wal.Append -/
def S_wal_Append (d : Option Addr) (r : KL [.int .u8, .sl]) (h : Heap) (R : Int → Heap → Prop) : Prop :=
  Alloc h (.cells #[.int .u8 r.1, .slice r.2.1.a r.2.1.n r.2.1.c] 109) fun r1 h_ =>
  (bif d.isNone then
    R 1 h_
  else
    Ld (.int .u8) h_ r1 fun (x_Kind : Int) =>
    Ld .sl h_ (r1.add 1) fun (x_Data : Sl) =>
    C_wal_Bytes (x_Kind, x_Data, ()) h_ fun (r2 : Sl) (r3 : Int) h_1 =>
    (bif r3 != 0 then
      R r3 h_1
    else
      C_disk_Disk_Write d r2 h_1 fun (r4 : Int) h_2 =>
      R r4 h_2
    )
  )
theorem E_wal_Append (d : Option Addr) (r : KL [.int .u8, .sl]) (h : Heap) (R : Int → Heap → Prop) :
    VF Tryz.prog [] Tryz.f108 [.pointer d, .agg ⟨KL.vals [.int .u8, .sl] r⟩] h [.one (.int .i64)] R = S_wal_Append d r h R := by kernel_rfl
theorem A_wal_Append {d : Option Addr} {r : KL [.int .u8, .sl]} {h : Heap} {R : Int → Heap → Prop} (hs : S_wal_Append d r h R) : C_wal_Append d r h R :=
  use_ Tryz.func108 (by kernel_rfl) (E_wal_Append d r h R) hs

/-- wal.Bytes -/
def S_wal_Bytes (r : KL [.int .u8, .sl]) (h : Heap) (R : Sl → Int → Heap → Prop) : Prop :=
  Alloc h (.cells #[.int .u8 r.1, .slice r.2.1.a r.2.1.n r.2.1.c] 109) fun r1 h_ =>
  Ld (.int .u8) h_ r1 fun (Kind : Int) =>
  (bif Kind == 0 then
    R ⟨none, 0, 0⟩ 1 h_
  else
    Ld .sl h_ (r1.add 1) fun (Data : Sl) =>
    (bif decide ((Data.n : Int) ≥ 4096) then
      R ⟨none, 0, 0⟩ 4 h_
    else
      Ld (.int .u8) h_ r1 fun (Kind1 : Int) =>
      Alloc h_ (.cells #[.int .u8 Kind1] 5) fun b h_1 =>
      Ld .sl h_1 (r1.add 1) fun (Data1 : Sl) =>
      App Tryz.prog 75 75 ⟨some b, 1, 1⟩ Data1 h_1 fun s h_2 =>
      C_frame_Put ⟨none, 0, 0⟩ s h_2 fun (r2 : Sl) (r3 : Int) h_3 =>
      R r2 r3 h_3
    )
  )
theorem E_wal_Bytes (r : KL [.int .u8, .sl]) (h : Heap) (R : Sl → Int → Heap → Prop) :
    VF Tryz.prog [] Tryz.f119 [.agg ⟨KL.vals [.int .u8, .sl] r⟩] h [.one .sl, .one (.int .i64)] R = S_wal_Bytes r h R := by kernel_rfl
theorem A_wal_Bytes {r : KL [.int .u8, .sl]} {h : Heap} {R : Sl → Int → Heap → Prop} (hs : S_wal_Bytes r h R) : C_wal_Bytes r h R :=
  use_ Tryz.func119 (by kernel_rfl) (E_wal_Bytes r h R) hs

end Go.Proofs.YtniojdaddolnfaaGreat

/-
  Layer 5 (wal): contracts of the program's calls, and of the document's.
-/
namespace Go.Proofs.YtniojdaddolnfaaGreat
open Go

structure BR where
  kind : UInt8
  s : Sl
  xs : List UInt8
def BR.rec_ (a : BR) : WRec := ⟨a.kind, a.xs⟩
def eBR : Enc BR 2 := ⟨fun a => [.int .u8 (a.kind.toNat : Nat), .slice a.s.a a.s.n a.s.c], fun _ => rfl, by decide, fun x u hu => by
  simp only [List.mem_cons, List.not_mem_nil, or_false] at hu
  rcases hu with rfl | rfl <;> rfl⟩
def eRS : Enc WRec 2 := ⟨fun a => [.int .u8 (a.kind.toNat : Nat), .string (strB a.data)], fun _ => rfl, by decide, fun x u hu => by
  simp only [List.mem_cons, List.not_mem_nil, or_false] at hu
  rcases hu with rfl | rfl <;> rfl⟩
theorem TWR : ElemT Tryz.prog 78 109 2 32 := .of (by kernel_rfl)
def OutW (B : Nat) (h : Heap) (out : Sl) (bs : List BR) : Prop := RdS h 2 out (eBR.fl bs) ∧ out.from_ B ∧ ∀ a ∈ bs, RdS h 1 a.s (cB a.xs) ∧ a.s.from_ B
theorem OutW.ext {B : Nat} {h h' : Heap} {out : Sl} {bs : List BR} (ho : OutW B h out bs) (he : Ext h.size h h') : OutW B h' out bs :=
  ⟨ho.1.ext' he, ho.2.1, fun a ha => ⟨(ho.2.2 a ha).1.ext' he, (ho.2.2 a ha).2⟩⟩
/-- Records that are read, as one thing. -/
def resW (out : Sl) (bs : List BR) : Res := .any (fun g => (0 < (eBR.fl bs).length ∧ out.blk = some g) ∨ ∃ a ∈ bs, 0 < (cB a.xs).length ∧ a.s.blk = some g) (fun h => RdS h 2 out (eBR.fl bs) ∧ ∀ a ∈ bs, RdS h 1 a.s (cB a.xs))
  (fun h h' hs hk ⟨h1, h2⟩ => ⟨Res.keep (.rd out 2 (eBR.fl bs)) hs (fun g hg hl => hk g (.inl hg) hl) h1, fun a ha => Res.keep (.rd a.s 1 (cB a.xs)) hs (fun g hg hl => hk g (.inr ⟨a, ha, hg⟩) hl) (h2 a ha)⟩)
  (fun h ⟨h1, h2⟩ g hg => by
    rcases hg with hg | ⟨a, ha, hg⟩
    · exact Res.lt (.rd out 2 (eBR.fl bs)) h1 g hg
    · exact Res.lt (.rd a.s 1 (cB a.xs)) (h2 a ha) g hg)
section
variable {h0 h : Heap} {F : List Res} {d : Nat} {ty : TypeId} {s : Sl} {b : List UInt8} {n : Nat}
theorem At.newW {L : List Res} {h' : Heap} {out : Sl} {bs : List BR} (H : At h0 h L) (he : Ext h.size h h') (ho : OutW h.size h' out bs) : At h0 h' (resW out bs :: L) :=
  H.new he ⟨ho.1, fun a ha => (ho.2.2 a ha).1⟩ fun g hg => by
    rcases hg with hg | ⟨a, ha, hg⟩
    · exact ho.2.1 g hg.2
    · exact (ho.2.2 a ha).2 g hg.2
theorem wal_Bytes_ok {k : UInt8} {x : Sl} {xs : List UInt8} {R : Sl → Int → Heap → Prop} (hx : RdS h 1 x (cB xs)) (h1 : k = 0 → ∀ h', Ext h.size h h' → R ⟨none, 0, 0⟩ 1 h') (h2 : k ≠ 0 → 4096 ≤ xs.length → ∀ h', Ext h.size h h' → R ⟨none, 0, 0⟩ 4 h')
    (h3 : WRec.ok ⟨k, xs⟩ → ∀ r h', Own h' 1 r (cB (recM ⟨k, xs⟩)) → r.from_ h.size → Ext h.size h h' → R r 0 h') : C_wal_Bytes ((k.toNat : Nat), x, ()) h R := by
  refine A_wal_Bytes ?_
  unfold S_wal_Bytes
  have hn := rd_b hx
  have H := At.start h
  repeat (first | with_reducible refine nn ?_ | with_reducible refine let_ ?_ | with_reducible refine brSome ?_ | with_reducible refine brF ?_ | with_reducible refine brT ?_ | ((with_reducible apply ldAt H 0); exact rfl; exact rfl) | ((with_reducible apply ldAt0 H 0); exact rfl; exact rfl) | ((with_reducible apply stAt H 0); exact rfl; exact rfl; intro h H) | ((with_reducible apply stAt0 H 0); exact rfl; exact rfl; intro h H) | ((with_reducible apply allocAt H); intro h b H) | ((with_reducible refine ⟨?_, ?_⟩); first | ((with_reducible apply ldAt H 0); exact rfl; exact rfl; exact rfl) | ((with_reducible apply ldAt0 H 0); exact rfl; exact rfl; exact rfl)))
  refine br beq_iff_eq (fun hk => h1 (UInt8.toNat_inj.1 (by show k.toNat = 0; have : ((k.toNat : Nat) : Int) = 0 := hk; omega)) _ H.ext) fun hk => ?_
  have hk0 : k ≠ 0 := fun e => hk (by subst e; rfl)
  repeat (first | with_reducible refine nn ?_ | with_reducible refine let_ ?_ | with_reducible refine brSome ?_ | with_reducible refine brF ?_ | with_reducible refine brT ?_ | ((with_reducible apply ldAt H 0); exact rfl; exact rfl) | ((with_reducible apply ldAt0 H 0); exact rfl; exact rfl) | ((with_reducible apply stAt H 0); exact rfl; exact rfl; intro h H) | ((with_reducible apply stAt0 H 0); exact rfl; exact rfl; intro h H) | ((with_reducible apply allocAt H); intro h b H) | ((with_reducible refine ⟨?_, ?_⟩); first | ((with_reducible apply ldAt H 0); exact rfl; exact rfl; exact rfl) | ((with_reducible apply ldAt0 H 0); exact rfl; exact rfl; exact rfl)))
  refine brD (fun hc => h2 hk0 (by have hc' : ((x.n : Nat) : Int) ≥ 4096 := hc; omega) _ H.ext) fun hc => ?_
  have hc : ¬ ((x.n : Nat) : Int) ≥ 4096 := hc
  repeat (first | with_reducible refine nn ?_ | with_reducible refine let_ ?_ | with_reducible refine brSome ?_ | with_reducible refine brF ?_ | with_reducible refine brT ?_ | ((with_reducible apply ldAt H 0); exact rfl; exact rfl) | ((with_reducible apply ldAt0 H 0); exact rfl; exact rfl) | ((with_reducible apply ldAt H 1); exact rfl; exact rfl) | ((with_reducible apply ldAt0 H 1); exact rfl; exact rfl) | ((with_reducible apply stAt H 0); exact rfl; exact rfl; intro h H) | ((with_reducible apply stAt0 H 0); exact rfl; exact rfl; intro h H) | ((with_reducible apply stAt H 1); exact rfl; exact rfl; intro h H) | ((with_reducible apply stAt0 H 1); exact rfl; exact rfl; intro h H) | ((with_reducible apply allocAt H); intro h b H) | ((with_reducible refine ⟨?_, ?_⟩); first | ((with_reducible apply ldAt H 0); exact rfl; exact rfl; exact rfl) | ((with_reducible apply ldAt0 H 0); exact rfl; exact rfl; exact rfl) | ((with_reducible apply ldAt H 1); exact rfl; exact rfl; exact rfl) | ((with_reducible apply ldAt0 H 1); exact rfl; exact rfl; exact rfl)))
  have hb : Blk _ _ _ [.int .u8 (k.toNat : Nat)] := H.get 0 rfl
  have o1 : Own _ 1 ⟨some ⟨_, 0, none⟩, 1, 1⟩ (cB [k]) := Own.full hb (sz := 1) (n := 1) (by rfl) (by decide)
  have H1 := H.as_ 0 rfl (.own ⟨some ⟨_, 0, none⟩, 1, 1⟩ 1 (cB [k])) o1 fun g hg => by simp [Res.fp, Sl.blk] at hg ⊢; omega
  refine appB o1 (H.arg hx) (by simp; omega) fun s2 h2' o2 g2 => ?_
  have H2 := H1.turn 0 rfl (r' := .own s2 1 (cB ([k] ++ xs))) g2.upd o2 g2.stp.grow
  refine frame_Put_ok (x := []) (Own.nil _ _) o2.rd (fun _ g _ e => by simp [Sl.blk] at e) (by decide) (fun hx => by simp at hx; omega) fun _ r3 h3' o3 g3 => ?_
  rw [List.nil_append] at o3
  have e3 : Ext h2'.size h2' h3' := g3.upd.ext (Nat.le_refl _) fun g _ e => by simp [Sl.blk] at e
  refine h3 ⟨hk0, by show xs.length < 4096; omega⟩ r3 h3' o3 ?_ (H2.ext.trans (e3.mono H2.ext.1))
  rcases g3.blk with e | e
  · intro g hg; rw [e] at hg; simp [Sl.blk] at hg
  · intro g hg; exact Nat.le_trans H2.ext.1 (e g hg)
theorem wal_Append_ok {k : UInt8} {x : Sl} {xs : List UInt8} {R : Int → Heap → Prop} (H : At h0 h (diskL d ty s b n ++ F)) (hx : RdS h 1 x (cB xs)) (hl : b.length ≤ 1048576) (h1 : ¬ WRec.ok ⟨k, xs⟩ → ∀ e h', e ≠ 0 → At h0 h' (diskL d ty s b n ++ F) → R e h')
    (h2 : WRec.ok ⟨k, xs⟩ → 1048576 < b.length + (recM ⟨k, xs⟩).length → ∀ h', At h0 h' (diskL d ty s b n ++ F) → R 7 h') (h3 : WRec.ok ⟨k, xs⟩ → b.length + (recM ⟨k, xs⟩).length ≤ 1048576 → ∀ h' s', At h0 h' (diskL d ty s' (b ++ recM ⟨k, xs⟩) n ++ F) → R 0 h') :
    C_wal_Append (some ⟨d, 0, none⟩) ((k.toNat : Nat), x, ()) h R := by
  refine A_wal_Append ?_
  unfold S_wal_Append
  have hH := H
  refine alloc fun h1' b1 e1 z1 => brSome (ldB b1 ((k.toNat : Nat) : Int) rfl (ldF b1 x rfl ?_))
  have H1 := H.ext' e1
  refine wal_Bytes_ok (hx.ext' e1) (fun hk h2' e2 => brY rfl (h1 (fun hh => hh.1 hk) _ _ (by decide) (H1.ext' e2))) (fun _ hlen h2' e2 => brY rfl (h1 (fun hh => by have := hh.2; simp at this; omega) _ _ (by decide) (H1.ext' e2))) fun hok r h2' o2 f2 e2 => brN rfl ?_
  have hrl := recM_length ⟨k, xs⟩
  have hxl := hok.2
  simp only at hrl hxl
  refine disk_Write_ok (H1.ext' e2) o2.rd hl (by omega) (fun hf => h2 hok hf _ (H1.ext' e2)) fun hf h3' s' H3 => h3 hok hf _ s' H3
theorem wal_Read_ok {q : Sl} {l : List UInt8} {R : Sl → Int → Int → Heap → Prop} (hq : RdS h 1 q (cB l)) (hqc : q.n ≤ q.c) (hl : l.length ≤ 1000000000)
    (hR : ∀ out bs h', OutW h.size h' out bs → (∀ a ∈ bs, a.s.n ≤ a.s.c) → bs.map BR.rec_ = (walR l).1 → Ext h.size h h' → R out ((walR l).2.1 : Nat) (walR l).2.2 h') : C_wal_Read q h R := by
  refine A_wal_Read ?_
  unfold S_wal_Read
  refine frame_All_ok hq hqc hl fun out0 bas h1 o1 hb1 e1 => ?_
  have hpay : payM (BAx bas) [] 0 (allM l (l.length + 1) [] 0).2.2 = walR l := by rw [hb1]; exact pay_wal l _ 0 []
  generalize (allM l (l.length + 1) [] 0).2.2 = ee at *
  have hn0 := ownn o1.1
  have hcnt : bas.length ≤ l.length ∧ ∀ a ∈ bas, a.xs.length ≤ 4096 := by
    have key : ∀ (f a : Nat) (ps : List (List UInt8)), ps.length ≤ a → a ≤ l.length → (∀ p ∈ ps, p.length ≤ 4096) → (allM l f ps a).1.length ≤ l.length ∧ ∀ p ∈ (allM l f ps a).1, p.length ≤ 4096 := by
      intro f
      induction f with
      | zero => intro a ps h1 h2 h3; exact ⟨by show ps.length ≤ _; omega, h3⟩
      | succ f ih =>
        intro a ps h1 h2 h3
        rw [allM]
        split
        · split
          · exact ⟨by show ps.length ≤ _; omega, h3⟩
          · rename_i hh hz
            obtain ⟨t1, t2, t3, t4⟩ := takeM_ok (Classical.not_not.1 hz)
            rw [List.length_drop] at t2
            refine ih _ _ (by rw [List.length_append]; simp; omega) (by omega) fun p hp => ?_
            rcases List.mem_append.1 hp with hp | hp
            · exact h3 p hp
            · rw [List.mem_singleton.1 hp]; exact t4
        · exact ⟨by show ps.length ≤ _; omega, h3⟩
    have := key (l.length + 1) 0 [] (by simp) (Nat.zero_le _) (by simp)
    rw [← hb1] at this
    exact ⟨by simpa [BAx] using this.1, fun a ha => this.2 a.xs (List.mem_map_of_mem ha)⟩
  have hle1 := e1.1
  refine loop3 (s1 := .one .sl) (s2 := .one (.int .i64)) (s3 := .one (.int .i64)) (fun (out : Sl) (at_ x : Int) h2 => ∃ (bs : List BR) (k a : Nat), x = k ∧ k ≤ bas.length ∧ at_ = a ∧ a ≤ k * 5000 ∧ bs.length ≤ k ∧ Ext h1.size h1 h2 ∧ Own h2 2 out (eBR.fl bs) ∧ out.from_ h1.size ∧ (∀ a ∈ bs, RdS h1 1 a.s (cB a.xs) ∧ a.s.from_ h.size ∧ a.s.n ≤ a.s.c) ∧ payM ((BAx bas).drop k) (bs.map BR.rec_) a ee = walR l) (fun _ _ (x : Int) _ => (bas.length - x).toNat)
    ⟨[], 0, 0, rfl, Nat.zero_le _, rfl, Nat.zero_le _, Nat.zero_le _, Ext.refl _ _, Own.nil _ _, (fun g hg => by simp [Sl.blk] at hg), (fun a ha => by cases ha), hpay⟩ fun _ (out : Sl) (at_ x : Int) h2 hI => ?_
  obtain ⟨bs, k, a, rfl, hk, rfl, ha, hbk, he, ho, hf, hbs, hp⟩ := hI
  have fin : ∀ h', Ext h1.size h1 h' → Own h' 2 out (eBR.fl bs) → OutW h.size h' out bs := fun h' he' ho' => ⟨ho'.rd, fun g hg => Nat.le_trans hle1 (hf g hg), fun a ha => ⟨(hbs a ha).1.ext' he', (hbs a ha).2.1⟩⟩
  refine brD (fun hc => ?_) fun hc => ?_
  · have hk2 : k < bas.length := by omega
    have hd : (BAx bas).drop k = bas[k].xs :: (BAx bas).drop (k + 1) := by
      have h1 : k < (BAx bas).length := by simp [BAx]; exact hk2
      rw [List.drop_eq_getElem_cons h1]; simp [BAx]
    rw [hd] at hp
    obtain ⟨rk, fk, _⟩ := o1.2.2 _ (List.getElem_mem hk2)
    have rk2 := rk.ext' he
    have hkn := rd_b rk
    have hk4 := hcnt.2 _ (List.getElem_mem hk2)
    refine ixR (o1.1.rd.ext' he) k rfl hk2 fun e hel => ldR0 (o1.1.rd.ext' he) hel hk2 bas[k].s rfl ?_
    cases hxs : bas[k].xs with
    | nil =>
      rw [hxs] at hp hkn
      refine brY (by rw [hkn]; rfl) ?_
      have := hR out bs h2 (fin h2 he ho) (fun a ha => (hbs a ha).2.2) (by rw [← hp]; rfl) (e1.trans (he.mono hle1))
      rw [← hp] at this
      exact this
    | cons kk dd =>
      rw [hxs] at hp hkn rk2 hk4
      simp only [List.length_cons] at hkn hk4
      refine brN (by rw [beq_eq_false_iff_ne]; omega) (ixcB rk2 0 rfl (by simp) ?_)
      simp only [List.getElem_cons_zero]
      unfold payM at hp
      simp only at hp
      refine br beq_iff_eq (fun hz => ?_) fun hz => ?_
      · have hz0 : kk = 0 := UInt8.toNat_inj.1 (by show kk.toNat = 0; omega)
        rw [if_pos hz0] at hp
        have := hR out bs h2 (fin h2 he ho) (fun a ha => (hbs a ha).2.2) (by rw [← hp]) (e1.trans (he.mono hle1))
        rw [← hp] at this
        exact this
      · have hz0 : kk ≠ 0 := fun e => hz (by subst e; rfl)
        rw [if_neg hz0] at hp
        refine ixcB rk2 0 rfl (by simp) ?_
        simp only [List.getElem_cons_zero]
        have rk3 : RdS h1 1 bas[k].s (cB (kk :: dd)) := by rw [← hxs]; exact rk
        have hcap : bas[k].s.n ≤ bas[k].s.c := (o1.2.2 _ (List.getElem_mem hk2)).2.2.2
        refine cutB rk3 1 bas[k].s.n bas[k].s.c (loi rfl) (hi0 _) (.inl ⟨rfl, rfl⟩) (by omega) (by simp; omega) hcap (Nat.le_refl _) fun s3 r3 n3 c3 b3 => ?_
        rw [show ((kk :: dd).drop 1).take (bas[k].s.n - 1) = dd by rw [hkn]; simp] at r3
        refine app1 (E := eBR) TWR ⟨kk, s3, dd⟩ ho (by omega) (by omega) fun s4 h4 o4 g4 => frame_Size_ok (by omega) (by omega) ?_
        rw [w64 (n := (a : Int) + (bas[k].s.n + 8)) (by omega) (by omega), w64 (n := (k : Int) + 1) (by omega) (by omega)]
        refine let_ ⟨⟨bs ++ [⟨kk, s3, dd⟩], k + 1, a + (dd.length + 1 + 8), by omega, by omega, by omega, by omega, by rw [List.length_append]; simp; omega, he.trans (g4.ext hf he.1), o4, g4.from_ hf he.1, fun y hy => ?_, ?_⟩, by omega⟩
        · rcases List.mem_append.1 hy with hy | hy
          · exact hbs y hy
          · rw [List.mem_singleton.1 hy]
            exact ⟨r3, (fun g hg => fk g (by rw [← b3]; exact hg)), by show s3.n ≤ s3.c; omega⟩
        · rw [List.map_append]
          exact hp
  · have hkl : k = bas.length := by omega
    subst hkl
    rw [List.drop_of_length_le (by simp [BAx])] at hp
    have := hR out bs h2 (fin h2 he ho) (fun a ha => (hbs a ha).2.2) (by rw [← hp]; rfl) (e1.trans (he.mono hle1))
    rw [← hp] at this
    exact this
end
end Go.Proofs.YtniojdaddolnfaaGreat

/-
  What a row's reading of an argument tells, with the reach that the form itself sets: no slice and no text takes more than 2^47 - 4096 bytes.
-/
namespace Go.Proofs.YtniojdaddolnfaaGreat
open Go Go.ChangeShapes Go.WideShapes

def Fits {H : Type} (P : Program) (t : TypeId) (d : DataW H) : Prop := (d.weights P t).all (· ≤ reachBytes) = true
theorem reach_eq : reachBytes = 140737488351232 := rfl
theorem fits_at {H : Type} {P : Program} {ts : List TypeId} {ds : List (DataW H)} (h : (DataW.weightsEach P ts ds).all (· ≤ reachBytes) = true) {j : Nat} {t : TypeId} {d : DataW H} (ht : ts[j]? = some t) (hd : ds[j]? = some d) : Fits P t d :=
  List.all_eq_true.2 fun n hn => List.all_eq_true.1 h n (DataW.weights_mem_each ht hd n hn)
theorem fits_all {H : Type} {P : Program} {e : TypeId} : ∀ {l : List (DataW H)}, (DataW.weightsAll P e l).all (· ≤ reachBytes) = true → ∀ d ∈ l, Fits P e d
  | [], _, d, hd => by cases hd
  | d0 :: l, h, d, hd => by
    simp only [DataW.weightsAll, List.all_append, Bool.and_eq_true] at h
    rcases List.mem_cons.1 hd with rfl | hd
    · exact h.1
    · exact fits_all h.2 d hd

section
variable {H : Type} {enc : TypeId × Value → H} {P : Program} {w : World}
/-- What the cells of an element of this type are like. -/
def ElS (enc : TypeId × Value → H) (P : Program) (w : World) (e : TypeId) (Q : List Value → Prop) : Prop :=
  ∀ (n : Nat) (cs : List Value) (x : DataW H × List MemPlace), DataW.trod enc P w 0 (fun _ => true) true n e cs = some x → Fits P e x.1 → Q cs
theorem els_map {e : TypeId} {Q Q' : List Value → Prop} (he : ElS enc P w e Q) (h : ∀ cs, Q cs → Q' cs) : ElS enc P w e Q' := fun n cs x hx hs => h cs (he n cs x hx hs)
theorem els_int {e : TypeId} {k : IntKind} (ht : P.underlying e = some (.int k)) : ElS enc P w e fun cs => ∃ n, cs = [.int k n] ∧ (Lit.int k n).wf = true := fun n cs x h _ => el_int ht n cs x h
theorem els_bool {e : TypeId} (ht : P.underlying e = some .bool) : ElS enc P w e fun cs => ∃ b, cs = [.bool b] := fun n cs x h _ => el_bool ht n cs x h
theorem els_str {e : TypeId} (ht : P.underlying e = some .string) : ElS enc P w e fun cs => ∃ s : ByteArray, cs = [.string s] ∧ s.size ≤ 140737488351232 := fun n cs x h hs => by
  obtain ⟨b, h1, h2, _⟩ := DataW.trod_string ht h
  refine ⟨b, h1, ?_⟩
  rw [h2] at hs
  have := List.all_eq_true.1 hs b.data.toList.length (by simp [DataW.weights])
  have e : b.data.toList.length = b.size := rfl
  rw [e] at this
  exact of_decide_eq_true this
theorem els_sl {t e : TypeId} {sz : Nat} {Q : List Value → Prop} (ht : P.underlying t = some (.slice e)) (hc : P.cellsOf e = sz) (hp : 0 < sz) (hb : 0 < P.bytesOf e) (he : ElS enc P w e Q) :
    ElS enc P w t fun cs => ∃ (s : Sl) (css : List (List Value)), cs = [s.v] ∧ css.length = s.n ∧ (∀ c ∈ css, c.length = sz ∧ Q c) ∧ Arg w.heap sz s css.flatten ∧ s.c ≤ 140737488351232 := by
  intro fuel cs x h hfit
  have hlt := DataW.trod_lt _ _ _ _ h
  rcases DataW.trod_slice ht h with ⟨rfl, _⟩ | ⟨a, len, cap, elems, rest, n, _, rfl, rfl, _, hl, hm, hlen, hel, hsp, _⟩
  · exact ⟨⟨none, 0, 0⟩, [], rfl, rfl, (by simp), ⟨RdS.nil _ _ _ _, Nat.le_refl _, (by simp), fun h => by simp at h⟩, by simp⟩
  rw [hc] at hel hsp hlt
  obtain ⟨hrl, _⟩ := hsp rfl
  have hfit' : (((elems.map (·.1)).length + (rest.map (·.1)).length) * P.bytesOf e :: (DataW.weightsAll P e (elems.map (·.1)) ++ DataW.weightsAll P e (rest.map (·.1)))).all (· ≤ reachBytes) = true := by
    have := hfit
    simpa only [Fits, DataW.weights, ht] using this
  rw [List.all_cons, List.all_append, Bool.and_eq_true, Bool.and_eq_true, List.length_map, List.length_map, hlen, hrl] at hfit'
  obtain ⟨f0, f1, _⟩ := hfit'
  have f0 : (len + (cap - len)) * P.bytesOf e ≤ 140737488351232 := of_decide_eq_true f0
  have f2 := fits_all f1
  have hcap : cap ≤ 140737488351232 := by
    have h1 : (len + (cap - len)) * 1 ≤ (len + (cap - len)) * P.bytesOf e := Nat.mul_le_mul_left _ hb
    omega
  let f : Nat → List Value := fun i => (w.cells? 0 (a.add (i * sz)) sz).getD (List.replicate sz (.bool false))
  have hf : ∀ i, (f i).length = sz := fun i => by
    show ((w.cells? 0 (a.add (i * sz)) sz).getD _).length = sz
    cases hcs : w.cells? 0 (a.add (i * sz)) sz with
    | none => simp
    | some l => exact (World.cells?_some hcs).2.1
  have each : ∀ i, i < len → w.cells? 0 (a.add (i * sz)) sz = some (f i) ∧ Q (f i) := by
    intro i hi
    have h1 := hel i hi
    rw [List.getElem?_eq_getElem (by omega)] at h1
    cases hcs : w.cells? 0 (a.add (i * sz)) sz with
    | none => rw [hcs] at h1; cases h1
    | some l =>
      rw [hcs] at h1
      have e : f i = l := by show ((w.cells? 0 (a.add (i * sz)) sz).getD _) = l; rw [hcs]; rfl
      rw [e]
      exact ⟨rfl, he _ _ _ h1 (f2 _ (List.mem_map.2 ⟨elems[i], List.getElem_mem _, rfl⟩))⟩
  have hfl : ((List.range len).map f).flatten = (List.range len).flatMap f := by rw [List.flatMap_def]
  refine ⟨⟨some a, len, cap⟩, (List.range len).map f, rfl, by simp, ?_, ⟨⟨?_, fun hpos => ?_⟩, hl, hm, fun hc0 g hg => ?_⟩, hcap⟩
  · intro c hcm
    obtain ⟨i, hi, rfl⟩ := List.mem_map.1 hcm
    exact ⟨hf i, (each i (List.mem_range.1 hi)).2⟩
  · rw [hfl, flat_len f sz hf, List.length_range]
  · rw [hfl, flat_len f sz hf, List.length_range] at hpos
    have hl0 : 0 < len := Nat.pos_of_ne_zero fun e => by rw [e] at hpos; simp at hpos
    have hspot : a.spot = none := by
      have := (World.cells?_some (each 0 hl0).1).2.2 0 hp
      rw [Nat.zero_mul, show (a.add 0).add 0 = a from rfl, List.getElem?_eq_getElem (by rw [hf]; exact hp)] at this
      unfold World.cell? at this
      split at this
      · cases hs : a.spot with
        | none => rfl
        | some _ => rw [hs] at this; simp at this
      · cases this
    obtain ⟨g, o, sp⟩ := a
    obtain rfl : sp = none := hspot
    refine ⟨g, o, rfl, fun j hj => ?_⟩
    rw [hfl, flat_len f sz hf, List.length_range] at hj
    have hi : j / sz < len := Nat.div_lt_of_lt_mul (by rw [Nat.mul_comm]; exact hj)
    have hr : j % sz < sz := Nat.mod_lt _ hp
    have hjj : j / sz * sz + j % sz = j := by rw [Nat.mul_comm]; exact Nat.div_add_mod j sz
    have h2 := (World.cells?_some (each (j / sz) hi).1).2.2 (j % sz) hr
    rw [add0, add0, Nat.add_assoc, hjj, cell_eq] at h2
    have h3 := flat_get f sz hf (List.range len) (j / sz) (j % sz) (by rw [List.length_range]; exact hi) hr
    rw [hjj, List.getElem_range] at h3
    rw [h2, hfl, h3]
  · have hg' : a.block = g := by simpa [Sl.blk] using hg
    rw [← hg']
    refine hlt (.cell a.block (a.off + 0)) ?_
    refine List.mem_append_left _ ?_
    have hc0' : 0 < cap := hc0
    unfold MemPlace.row
    exact List.mem_map.2 ⟨0, List.mem_range.2 (Nat.mul_pos (by omega) hp), rfl⟩
theorem els_bytes {t e : TypeId} (ht : P.underlying t = some (.slice e)) (he : P.underlying e = some (.int .u8)) (hc : P.cellsOf e = 1) (hb : 0 < P.bytesOf e) :
    ElS enc P w t fun cs => ∃ (s : Sl) (xs : List UInt8), cs = [s.v] ∧ Arg w.heap 1 s (cB xs) ∧ s.c ≤ 140737488351232 :=
  els_map (els_sl ht hc (by decide) hb (els_int he)) fun cs ⟨s, css, h1, h2, h3, h4, h6⟩ => by
    obtain ⟨xs, h5, _⟩ := cells_bytes h3
    exact ⟨s, xs, h1, h5 ▸ h4, h6⟩
theorem els_st {t : TypeId} {fs : Array Field} {Q : List Value → Prop} (ht : P.underlying t = some (.struct fs))
    (hq : ∀ cs : List Value, cs.length = P.cellsOf t → (∀ (i : Nat) (f : Field), fs[i]? = some f → ∃ n x, DataW.trod enc P w 0 (fun _ => true) true n f.type ((cs.drop f.offset).take (P.cellsOf f.type)) = some x ∧ Fits P f.type x.1) → Q cs) :
    ElS enc P w t Q := fun _ cs _ h hfit => by
  obtain ⟨xs, n, _, hx, h1, h2, h3⟩ := DataW.trod_struct ht h
  refine hq cs h1 fun i f hf => ?_
  have h4 := h3 i f hf
  have hi : i < xs.length := by rw [h2]; exact (Array.getElem?_eq_some_iff.1 hf).1
  rw [List.getElem?_eq_getElem hi] at h4
  refine ⟨n, _, h4, ?_⟩
  rw [hx] at hfit
  have hfit' : (DataW.weightsEach P (fs.toList.map (·.type)) (xs.map (·.1))).all (· ≤ reachBytes) = true := by simpa only [Fits, DataW.weights, ht] using hfit
  refine fits_at hfit' (j := i) ?_ ?_
  · rw [List.getElem?_map, Array.getElem?_toList, hf]; rfl
  · rw [List.getElem?_map, List.getElem?_eq_getElem hi]; rfl

/-! ## At the row -/
theorem args_sl {t e : TypeId} {sz : Nat} {Q : List Value → Prop} {b0 : Nat} {v : Value} {d : DataW H} {ps : List MemPlace} (ht : P.underlying t = some (.slice e)) (hc : P.cellsOf e = sz) (hp : 0 < sz) (hb : 0 < P.bytesOf e) (he : ElS enc P w e Q)
    (hval : Value.okWide P w .any b0 t v) (hd : DataW.Trod enc P w 0 (fun _ => true) true t v d ps) (hf : Fits P t d) :
    ∃ (s : Sl) (css : List (List Value)), v = s.v ∧ css.length = s.n ∧ (∀ c ∈ css, c.length = sz ∧ Q c) ∧ Arg w.heap sz s css.flatten ∧ s.below w.heap.size ∧ s.c ≤ 140737488351232 := by
  obtain ⟨fuel, hd⟩ := hd
  obtain ⟨a, len, cap, rfl⟩ := okWide_slice ht hval
  obtain ⟨s, css, h1, h2, h3, h4, h6⟩ := els_sl ht hc hp hb he _ _ _ hd hf
  have h1' : [Value.slice a len cap] = [s.v] := h1
  obtain ⟨a', n', c'⟩ := s
  simp only [Sl.v, List.cons.injEq, Value.slice.injEq, and_true] at h1'
  obtain ⟨rfl, rfl, rfl⟩ := h1'
  refine ⟨⟨a, len, cap⟩, css, rfl, h2, h3, h4, fun g hg => ?_, h6⟩
  cases a with
  | none => simp [Sl.blk] at hg
  | some a =>
    have hg' : a.block = g := by simpa [Sl.blk] using hg
    simp only [Value.okWide, ht, Cell.okWide, Cell.ok] at hval
    obtain ⟨_, _, _, _, row, cells, hs, _⟩ := hval
    rw [← hg']
    unfold World.shape? at hs
    split at hs
    · rename_i c el fz hb
      exact (Array.getElem?_eq_some_iff.1 hb).1
    · cases hs
theorem args_str {t : TypeId} {b0 : Nat} {v : Value} {d : DataW H} {ps : List MemPlace} (ht : P.underlying t = some .string)
    (hd : DataW.Trod enc P w 0 (fun _ => true) true t v d ps) (hf : Fits P t d) (x : ByteArray) (hx : v = .string x) : x.size ≤ 140737488351232 := by
  obtain ⟨fuel, hd⟩ := hd
  subst hx
  obtain ⟨s, h1, h2⟩ := els_str ht _ _ _ hd hf
  have h1' : [Value.string x] = [Value.string s] := h1
  injection h1' with h1' _
  injection h1' with h1'
  rw [h1']; exact h2
theorem args_bytes {t e : TypeId} {b0 : Nat} {v : Value} {d : DataW H} {ps : List MemPlace} (ht : P.underlying t = some (.slice e)) (he : P.underlying e = some (.int .u8)) (hc : P.cellsOf e = 1) (hb : 0 < P.bytesOf e)
    (hval : Value.okWide P w .any b0 t v) (hd : DataW.Trod enc P w 0 (fun _ => true) true t v d ps) (hf : Fits P t d) :
    ∃ (s : Sl) (xs : List UInt8), v = s.v ∧ Arg w.heap 1 s (cB xs) ∧ s.below w.heap.size ∧ s.c ≤ 140737488351232 := by
  obtain ⟨s, css, h1, h2, h3, h4, h5, h6⟩ := args_sl ht hc (by decide) hb (els_int he) hval hd hf
  obtain ⟨xs, h7, _⟩ := cells_bytes h3
  exact ⟨s, xs, h1, h7 ▸ h4, h5, h6⟩
end
end Go.Proofs.YtniojdaddolnfaaGreat

/-
  Layer 5 (wal): the document's calls; recovering; what the document fixes.
-/
namespace Go.Proofs.YtniojdaddolnfaaGreat
open Go

section
variable {h0 h : Heap} {F : List Res} {d : Nat} {ty : TypeId} {s : Sl} {b : List UInt8} {n : Nat}
theorem wal_Recover_nil {R : Sl → Int → Heap → Prop} (hR : R ⟨none, 0, 0⟩ 1 h) : C_wal_Recover none h R := A_wal_Recover hR
theorem wal_Recover_ok {R : Sl → Int → Heap → Prop} (H : At h0 h (diskL d ty s b n ++ F)) (hl : b.length ≤ 1048576) (h1 : (walR b).2.1 < n → ∀ h', At h0 h' (diskL d ty s b n ++ F) → R ⟨none, 0, 0⟩ 3 h')
    (h2 : n ≤ (walR b).2.1 → ∀ h' out bs s', bs.map BR.rec_ = (walR b).1 → (∀ a ∈ bs, a.s.n ≤ a.s.c) → At h0 h' (diskL d ty s' (b.take (walR b).2.1) (walR b).2.1 ++ (resW out bs :: F)) → R out 0 h') : C_wal_Recover (some ⟨d, 0, none⟩) h R := by
  refine A_wal_Recover ?_
  unfold S_wal_Recover
  refine brSome (disk_Bytes_ok H hl fun r h1' o1 f1 e1 => ?_)
  have H1 := H.ext' e1
  refine wal_Read_ok o1.rd o1.2.1 (by omega) fun out bs h2' w2 hcp hbs e2 => ?_
  have hend := (walM_le b (b.length + 1) [] 0 (Nat.zero_le _)).2.1
  have H2 := (H1.newW e2 w2).mv 1 2
  refine disk_Synced_ok (F := resW out bs :: F) H2 (brD (fun hlt => ?_) fun hge => ?_)
  · exact h1 (by omega) h2' (H1.ext' e2)
  · refine disk_Cut_ok (F := resW out bs :: F) H2 (fun hb => by rcases hb with hb | hb; omega; exact absurd hb (by show ¬ (b.length : Int) < ((walR b).2.1 : Nat); unfold walR; omega)) fun k hk hkb h3 s3 H3 => ?_
    have hk' : k = (walR b).2.1 := by omega
    subst hk'
    exact h2 (by omega) h3 out bs s3 hbs hcp H3
end
/-! ## fixed -/
def fx5 : List UInt8 := recM ⟨1, [120]⟩ ++ (recM ⟨2, []⟩).take 5
theorem fx5_wal : walR fx5 = ([⟨1, [120]⟩], 10, eForm) := by kernel_rfl
theorem wal_Append_nil {h : Heap} {k : UInt8} {x : Sl} {R : Int → Heap → Prop} (hR : ∀ h', Ext h.size h h' → R 1 h') : C_wal_Append none ((k.toNat : Nat), x, ()) h R := by
  refine A_wal_Append ?_
  unfold S_wal_Append
  exact alloc fun h1 b1 e1 z1 => brY rfl (hR h1 e1)
end Go.Proofs.YtniojdaddolnfaaGreat

/-
  Layer 1 (word): the document's reader, over a row of things.
-/
namespace Go.Proofs.YtniojdaddolnfaaGreat
open Go

theorem strB_get (l : List UInt8) (k : Nat) (hk : k < l.length) : (strB l)[k]? = some l[k] := by
  have h1 : k < (strB l).size := by rw [strB_size]; exact hk
  rw [getElem?_pos (strB l) k h1]
  simp [strB, ByteArray.getElem_eq_getElem_data]
theorem ixS {l : List UInt8} {i : Int} {K : Int → Prop} (k : Nat) (hi : i = (k : Int)) (hk : k < l.length) (hK : K (l[k].toNat : Int)) : IxS (strB l) i K := by
  subst hi
  exact ⟨l[k], by omega, by rw [Int.toNat_natCast]; exact strB_get l k hk, hK⟩

/-- The document's reader. -/
def qrd (q : Nat) (ty : TypeId) (l : List UInt8) (bad : Bool) : Res := .blk q ty [.string (strB l), .bool bad]
section
variable {h0 h : Heap} {F : List Res} {q : Nat} {ty : TypeId} {bad : Bool} {l : List UInt8}
theorem ref_fail {R : Heap → Prop} (H : At h0 h (qrd q ty l bad :: F)) (hR : ∀ h', At h0 h' (qrd q ty [] true :: F) → R h') :
    Nn (some (⟨q, 0, none⟩ : Addr)) fun p1 => St h (p1.add 1) (.bool true) fun h_ => Nn (some (⟨q, 0, none⟩ : Addr)) fun p2 => St h_ p2 (.string (⟨#[]⟩ : ByteArray)) fun h_1 => R h_1 :=
  nn (stAt H 0 rfl (by rfl) fun h3 H => nn (stAt0 H 0 rfl (by rfl) fun h4 H => hR h4 H))
end

end Go.Proofs.YtniojdaddolnfaaGreat

/- Printed by a program: what each function asks of the heap, that this is the reading of its code, and what follows for a call. -/
set_option maxRecDepth 1000000
namespace Go.Proofs.YtniojdaddolnfaaGreat
open Go

theorem useG_SH {an : List (Nat × Slots)} {f : FuncId} {fn : Func} {args : List Value} {h : Heap} {ss : List Sh} {R : TH (Heap → Prop) ss} {S : Prop} (hf : Tryz.prog.funcs[f]? = some fn) (hb : codeOk fn args.length = true) (e : VG Tryz.prog an fn args h ss R = S) (hs : S) : CallR Tryz.prog f args h ss R := VG_sound (an := an) mixed_ hf hb (cast e.symm hs)
/-- hard.Recover -/
def S_hard_Recover (d : Option Addr) (h : Heap) (R : KL [.int .i64, .int .i64, .sl] → Int → Heap → Prop) : Prop :=
  Alloc h (.cells #[.int .i64 0, .int .i64 0, .slice none 0 0] 46) fun p h_ =>
  C_wal_Recover d h_ fun (r : Sl) (r1 : Int) h_1 =>
  (bif r1 != 0 then
    St h_1 p (.int .i64 0) fun h_2 =>
    St h_2 (p.add 1) (.int .i64 0) fun h_3 =>
    St h_3 (p.add 2) (.slice none 0 0) fun h_4 =>
    Ld (.int .i64) h_4 p fun (r_0 : Int) =>
    Ld (.int .i64) h_4 (p.add 1) fun (r_1 : Int) =>
    Ld .sl h_4 (p.add 2) fun (r_2 : Sl) =>
    R (r_0, r_1, r_2, ()) r1 h_4
  else
    C_hard_Play r h_1 fun (r2 : KL [.int .i64, .int .i64, .sl]) (r3 : Int) h_5 =>
    St h_5 p (.int .i64 r2.1) fun h_6 =>
    St h_6 (p.add 1) (.int .i64 r2.2.1) fun h_7 =>
    St h_7 (p.add 2) (.slice r2.2.2.1.a r2.2.2.1.n r2.2.2.1.c) fun h_8 =>
    Ld (.int .i64) h_8 p fun (r_01 : Int) =>
    Ld (.int .i64) h_8 (p.add 1) fun (r_11 : Int) =>
    Ld .sl h_8 (p.add 2) fun (r_21 : Sl) =>
    R (r_01, r_11, r_21, ()) r3 h_8
  )
theorem E_hard_Recover (d : Option Addr) (h : Heap) (R : KL [.int .i64, .int .i64, .sl] → Int → Heap → Prop) :
    VG Tryz.prog [] Tryz.f19 [.pointer d] h [.agg [.int .i64, .int .i64, .sl], .one (.int .i64)] R = S_hard_Recover d h R := by kernel_rfl
theorem A_hard_Recover {d : Option Addr} {h : Heap} {R : KL [.int .i64, .int .i64, .sl] → Int → Heap → Prop} (hs : S_hard_Recover d h R) : C_hard_Recover d h R :=
  useG_SH Tryz.func19 (by kernel_rfl) (E_hard_Recover d h R) hs

/-- kissinggateref06.Same -/
def S_ref06_Same (a : KL [.int .i64, .int .i64, .sl]) (b : KL [.int .i64, .int .i64, .sl]) (h : Heap) (R : Bool → Heap → Prop) : Prop :=
  Alloc h (.cells #[.int .i64 a.1, .int .i64 a.2.1, .slice a.2.2.1.a a.2.2.1.n a.2.2.1.c] 46) fun a1 h_ =>
  Alloc h_ (.cells #[.int .i64 b.1, .int .i64 b.2.1, .slice b.2.2.1.a b.2.2.1.n b.2.2.1.c] 46) fun b1 h_1 =>
  Ld (.int .i64) h_1 a1 fun (Term : Int) =>
  Ld (.int .i64) h_1 b1 fun (Term1 : Int) =>
  (bif Term != Term1 then
    R false h_1
  else
    Ld (.int .i64) h_1 (a1.add 1) fun (Vote : Int) =>
    Ld (.int .i64) h_1 (b1.add 1) fun (Vote1 : Int) =>
    (bif Vote != Vote1 then
      R false h_1
    else
      Ld .sl h_1 (a1.add 2) fun (Entries : Sl) =>
      Ld .sl h_1 (b1.add 2) fun (Entries1 : Sl) =>
      (bif (Entries.n : Int) != (Entries1.n : Int) then
        R false h_1
      else
        Ld .sl h_1 (a1.add 2) fun (Entries2 : Sl) =>
        Loop [.one (.int .i64)] (fun _ (x30 : Int) h_2 go =>
          (bif decide (x30 < (Entries2.n : Int)) then
            Ld .sl h_2 (a1.add 2) fun (Entries3 : Sl) =>
            Ix Entries3 x30 2 fun e =>
            Ld (.int .i64) h_2 e fun (x_Term : Int) =>
            Ld .str h_2 (e.add 1) fun (x_Data : ByteArray) =>
            Ld .sl h_2 (b1.add 2) fun (Entries4 : Sl) =>
            Ix Entries4 x30 2 fun e1 =>
            Ld (.int .i64) h_2 e1 fun (x_Term1 : Int) =>
            Ld .str h_2 (e1.add 1) fun (x_Data1 : ByteArray) =>
            OpV Tryz.prog (do eqGuard .neq 40 (.tmp 37) (.tmp 42) (.agg #[.int .i64 x_Term, .string x_Data]) (.agg #[.int .i64 x_Term1, .string x_Data1]); binOp .neq 40 (.agg #[.int .i64 x_Term, .string x_Data]) (.agg #[.int .i64 x_Term1, .string x_Data1])) h_2 [.one .bool] fun (q : Bool) =>
            (bif q then
              R false h_2
            else
              go (IntKind.i64.wrap (x30 + 1)) h_2
            )
          else
            R true h_2
          )
          ) (0, ()) h_1
      )
    )
  )
theorem E_ref06_Same (a : KL [.int .i64, .int .i64, .sl]) (b : KL [.int .i64, .int .i64, .sl]) (h : Heap) (R : Bool → Heap → Prop) :
    VF Tryz.prog [(58, [(30, .one (.int .i64))])] Tryz.f20 [.agg ⟨KL.vals [.int .i64, .int .i64, .sl] a⟩, .agg ⟨KL.vals [.int .i64, .int .i64, .sl] b⟩] h [.one .bool] R = S_ref06_Same a b h R := by kernel_rfl
theorem A_ref06_Same {a : KL [.int .i64, .int .i64, .sl]} {b : KL [.int .i64, .int .i64, .sl]} {h : Heap} {R : Bool → Heap → Prop} (hs : S_ref06_Same a b h R) : C_ref06_Same a b h R :=
  use_ Tryz.func20 (by kernel_rfl) (E_ref06_Same a b h R) hs

/-- hard.Play -/
def S_hard_Play (l : Sl) (h : Heap) (R : KL [.int .i64, .int .i64, .sl] → Int → Heap → Prop) : Prop :=
  Alloc h (.cells #[.int .i64 0, .int .i64 0, .slice none 0 0] 46) fun p h_ =>
  Alloc h_ (.cells #[.int .i64 0, .int .i64 (-1), .slice none 0 0] 107) fun p1 h_1 =>
  Loop [.one (.int .i64)] (fun _ (x13 : Int) h_2 go =>
    (bif decide (x13 < (l.n : Int)) then
      Ix l x13 2 fun e =>
      Ld (.int .u8) h_2 e fun (x_Kind : Int) =>
      Ld .sl h_2 (e.add 1) fun (x_Data : Sl) =>
      Alloc h_2 (.cells #[.int .u8 0, .slice none 0 0] 109) fun x h_3 =>
      St h_3 x (.int .u8 x_Kind) fun h_4 =>
      St h_4 (x.add 1) (.slice x_Data.a x_Data.n x_Data.c) fun h_5 =>
      Ld .sl h_5 (x.add 1) fun (Data : Sl) =>
      C_word_Read Data h_5 fun (r : Option Addr) h_6 =>
      Ld (.int .u8) h_6 x fun (Kind : Int) =>
      Join [] (fun _ h_7 =>
        C_word_Reader_Done r h_7 fun (r1 : Bool) h_8 =>
        (bif !r1 then
          St h_8 p (.int .i64 0) fun h_9 =>
          St h_9 (p.add 1) (.int .i64 0) fun h_10 =>
          St h_10 (p.add 2) (.slice none 0 0) fun h_11 =>
          Ld (.int .i64) h_11 p fun (r_0 : Int) =>
          Ld (.int .i64) h_11 (p.add 1) fun (r_1 : Int) =>
          Ld .sl h_11 (p.add 2) fun (r_2 : Sl) =>
          R (r_0, r_1, r_2, ()) 2 h_11
        else
          go (IntKind.i64.wrap (x13 + 1)) h_8
        )
        ) fun J =>
      (bif Kind == 1 then
        C_hard_player_vote (some p1) r h_6 fun h_12 =>
        J  h_12
      else
        (bif Kind == 2 then
          C_hard_player_entry (some p1) r h_6 fun h_13 =>
          J  h_13
        else
          St h_6 p (.int .i64 0) fun h_14 =>
          St h_14 (p.add 1) (.int .i64 0) fun h_15 =>
          St h_15 (p.add 2) (.slice none 0 0) fun h_16 =>
          Ld (.int .i64) h_16 p fun (r_01 : Int) =>
          Ld (.int .i64) h_16 (p.add 1) fun (r_11 : Int) =>
          Ld .sl h_16 (p.add 2) fun (r_21 : Sl) =>
          R (r_01, r_11, r_21, ()) 2 h_16
        )
      )
    else
      Nn (some p1) fun p2 =>
      Ld (.int .i64) h_2 p2 fun (s_Term : Int) =>
      Ld (.int .i64) h_2 (p2.add 1) fun (s_Vote : Int) =>
      Ld .sl h_2 (p2.add 2) fun (s_Entries : Sl) =>
      C_hard_Right (s_Term, s_Vote, s_Entries, ()) h_2 fun (r2 : Bool) h_17 =>
      (bif !r2 then
        St h_17 p (.int .i64 0) fun h_18 =>
        St h_18 (p.add 1) (.int .i64 0) fun h_19 =>
        St h_19 (p.add 2) (.slice none 0 0) fun h_20 =>
        Ld (.int .i64) h_20 p fun (r_02 : Int) =>
        Ld (.int .i64) h_20 (p.add 1) fun (r_12 : Int) =>
        Ld .sl h_20 (p.add 2) fun (r_22 : Sl) =>
        R (r_02, r_12, r_22, ()) 2 h_20
      else
        Nn (some p1) fun p3 =>
        Ld (.int .i64) h_17 p3 fun (s_Term1 : Int) =>
        Ld (.int .i64) h_17 (p3.add 1) fun (s_Vote1 : Int) =>
        Ld .sl h_17 (p3.add 2) fun (s_Entries1 : Sl) =>
        St h_17 p (.int .i64 s_Term1) fun h_21 =>
        St h_21 (p.add 1) (.int .i64 s_Vote1) fun h_22 =>
        St h_22 (p.add 2) (.slice s_Entries1.a s_Entries1.n s_Entries1.c) fun h_23 =>
        Ld (.int .i64) h_23 p fun (r_03 : Int) =>
        Ld (.int .i64) h_23 (p.add 1) fun (r_13 : Int) =>
        Ld .sl h_23 (p.add 2) fun (r_23 : Sl) =>
        R (r_03, r_13, r_23, ()) 0 h_23
      )
    )
    ) (0, ()) h_1
theorem E_hard_Play (l : Sl) (h : Heap) (R : KL [.int .i64, .int .i64, .sl] → Int → Heap → Prop) :
    VG Tryz.prog [(58, [(13, .one (.int .i64))]), (29901, [])] Tryz.f37 [.slice l.a l.n l.c] h [.agg [.int .i64, .int .i64, .sl], .one (.int .i64)] R = S_hard_Play l h R := by kernel_rfl
theorem A_hard_Play {l : Sl} {h : Heap} {R : KL [.int .i64, .int .i64, .sl] → Int → Heap → Prop} (hs : S_hard_Play l h R) : C_hard_Play l h R :=
  useG_SH Tryz.func37 (by kernel_rfl) (E_hard_Play l h R) hs

/-- (*hard.player).vote -/
def S_hard_player_vote (p : Option Addr) (r : Option Addr) (h : Heap) (R : Heap → Prop) : Prop :=
  C_word_Reader_Int r 0 1099511627776 h fun (r1 : Int) h_ =>
  Nn p fun p1 =>
  St h_ p1 (.int .i64 r1) fun h_1 =>
  C_word_Reader_Int r (-1) 6 h_1 fun (r2 : Int) h_2 =>
  Nn p fun p2 =>
  St h_2 (p2.add 1) (.int .i64 r2) fun h_3 =>
  R h_3
theorem E_hard_player_vote (p : Option Addr) (r : Option Addr) (h : Heap) (R : Heap → Prop) :
    VF Tryz.prog [] Tryz.f62 [.pointer p, .pointer r] h [] R = S_hard_player_vote p r h R := by kernel_rfl
theorem A_hard_player_vote {p : Option Addr} {r : Option Addr} {h : Heap} {R : Heap → Prop} (hs : S_hard_player_vote p r h R) : C_hard_player_vote p r h R :=
  use_ Tryz.func62 (by kernel_rfl) (E_hard_player_vote p r h R) hs

/-- (*hard.player).entry -/
def S_hard_player_entry (p : Option Addr) (r : Option Addr) (h : Heap) (R : Heap → Prop) : Prop :=
  Nn p fun p1 =>
  Ld .sl h (p1.add 2) fun (Entries : Sl) =>
  Let ((Entries.n : Int) : Int) fun n =>
  C_word_Reader_Int r 1 (IntKind.i64.wrap (n + 1)) h fun (r1 : Int) h_ =>
  C_word_Reader_Int r 1 1099511627776 h_ fun (r2 : Int) h_1 =>
  C_word_Reader_Text r 512 h_1 fun (r3 : ByteArray) h_2 =>
  Alloc h_2 (.cells #[.int .i64 0, .string (⟨#[]⟩ : ByteArray)] 40) fun e h_3 =>
  St h_3 e (.int .i64 r2) fun h_4 =>
  St h_4 (e.add 1) (.string r3) fun h_5 =>
  C_word_Reader_Fail r h_5 fun (r4 : Bool) h_6 =>
  (bif !r4 then
    Nn p fun p2 =>
    Ld .sl h_6 (p2.add 2) fun (Entries1 : Sl) =>
    Cut Tryz.prog 37 Entries1 none (some (.int .i64 (IntKind.i64.wrap (r1 - 1)))) (some (.int .i64 (IntKind.i64.wrap (r1 - 1)))) fun s =>
    Ld (.int .i64) h_6 e fun (x_Term : Int) =>
    Ld .str h_6 (e.add 1) fun (x_Data : ByteArray) =>
    Alloc h_6 (.cells #[.int .i64 x_Term, .string x_Data] 40) fun b h_7 =>
    (Ld .sl h_7 (p2.add 2) fun (Entries2 : Sl) => (.slice Entries2.a Entries2.n Entries2.c : Value) = .slice Entries1.a Entries1.n Entries1.c) ∧
    App Tryz.prog 37 37 s ⟨some b, 1, 1⟩ h_7 fun s1 h_8 =>
    Nn p fun p3 =>
    St h_8 (p3.add 2) (.slice s1.a s1.n s1.c) fun h_9 =>
    R h_9
  else
    R h_6
  )
theorem E_hard_player_entry (p : Option Addr) (r : Option Addr) (h : Heap) (R : Heap → Prop) :
    VF Tryz.prog [] Tryz.f63 [.pointer p, .pointer r] h [] R = S_hard_player_entry p r h R := by kernel_rfl
theorem A_hard_player_entry {p : Option Addr} {r : Option Addr} {h : Heap} {R : Heap → Prop} (hs : S_hard_player_entry p r h R) : C_hard_player_entry p r h R :=
  use_ Tryz.func63 (by kernel_rfl) (E_hard_player_entry p r h R) hs

/-- hard.Right -/
def S_hard_Right (s : KL [.int .i64, .int .i64, .sl]) (h : Heap) (R : Bool → Heap → Prop) : Prop :=
  Alloc h (.cells #[.int .i64 s.1, .int .i64 s.2.1, .slice s.2.2.1.a s.2.2.1.n s.2.2.1.c] 46) fun s1 h_ =>
  Ld (.int .i64) h_ s1 fun (Term : Int) =>
  (bif decide (Term < 0) then
    R false h_
  else
    Ld (.int .i64) h_ s1 fun (Term1 : Int) =>
    (bif decide (Term1 > 1099511627776) then
      R false h_
    else
      Ld (.int .i64) h_ (s1.add 1) fun (Vote : Int) =>
      (bif decide (Vote < (-1)) then
        R false h_
      else
        Ld (.int .i64) h_ (s1.add 1) fun (Vote1 : Int) =>
        (bif decide (Vote1 ≥ 7) then
          R false h_
        else
          Ld .sl h_ (s1.add 2) fun (Entries : Sl) =>
          (bif decide ((Entries.n : Int) > 1024) then
            R false h_
          else
            Ld .sl h_ (s1.add 2) fun (Entries1 : Sl) =>
            Loop [.one (.int .i64), .one (.int .i64)] (fun _ (last : Int) (x33 : Int) h_1 go =>
              (bif decide (x33 < (Entries1.n : Int)) then
                Ix Entries1 x33 2 fun e =>
                Ld (.int .i64) h_1 e fun (x_Term : Int) =>
                Ld .str h_1 (e.add 1) fun (x_Data : ByteArray) =>
                Alloc h_1 (.cells #[.int .i64 0, .string (⟨#[]⟩ : ByteArray)] 40) fun e1 h_2 =>
                St h_2 e1 (.int .i64 x_Term) fun h_3 =>
                St h_3 (e1.add 1) (.string x_Data) fun h_4 =>
                Ld (.int .i64) h_4 e1 fun (Term2 : Int) =>
                (bif decide (Term2 < last) then
                  R false h_4
                else
                  Ld (.int .i64) h_4 e1 fun (Term3 : Int) =>
                  Ld (.int .i64) h_4 s1 fun (Term4 : Int) =>
                  (bif decide (Term3 > Term4) then
                    R false h_4
                  else
                    Ld .str h_4 (e1.add 1) fun (Data : ByteArray) =>
                    (bif decide ((Data.size : Int) > 512) then
                      R false h_4
                    else
                      Ld (.int .i64) h_4 e1 fun (Term5 : Int) =>
                      go Term5 (IntKind.i64.wrap (x33 + 1)) h_4
                    )
                  )
                )
              else
                R true h_1
              )
              ) (1, 0, ()) h_
          )
        )
      )
    )
  )
theorem E_hard_Right (s : KL [.int .i64, .int .i64, .sl]) (h : Heap) (R : Bool → Heap → Prop) :
    VF Tryz.prog [(122, [(3, .one (.int .i64)), (33, .one (.int .i64))])] Tryz.f65 [.agg ⟨KL.vals [.int .i64, .int .i64, .sl] s⟩] h [.one .bool] R = S_hard_Right s h R := by kernel_rfl
theorem A_hard_Right {s : KL [.int .i64, .int .i64, .sl]} {h : Heap} {R : Bool → Heap → Prop} (hs : S_hard_Right s h R) : C_hard_Right s h R :=
  use_ Tryz.func65 (by kernel_rfl) (E_hard_Right s h R) hs

/-- hard.Write -/
def S_hard_Write (d : Option Addr) (s : KL [.bool, .int .i64, .int .i64, .int .i64, .sl]) (h : Heap) (R : Int → Heap → Prop) : Prop :=
  Alloc h (.cells #[.bool s.1, .int .i64 s.2.1, .int .i64 s.2.2.1, .int .i64 s.2.2.2.1, .slice s.2.2.2.2.1.a s.2.2.2.2.1.n s.2.2.2.2.1.c] 123) fun s1 h_ =>
  Ld .bool h_ s1 fun (x_Hard : Bool) =>
  Ld (.int .i64) h_ (s1.add 1) fun (x_Term : Int) =>
  Ld (.int .i64) h_ (s1.add 2) fun (x_Vote : Int) =>
  Ld (.int .i64) h_ (s1.add 3) fun (x_From : Int) =>
  Ld .sl h_ (s1.add 4) fun (x_Entries : Sl) =>
  C_hard_Records (x_Hard, x_Term, x_Vote, x_From, x_Entries, ()) h_ fun (r : Sl) h_1 =>
  Loop [.one (.int .i64)] (fun _ (x11 : Int) h_2 go =>
    (bif decide (x11 < (r.n : Int)) then
      Ix r x11 2 fun e =>
      Ld (.int .u8) h_2 e fun (x_Kind : Int) =>
      Ld .sl h_2 (e.add 1) fun (x_Data : Sl) =>
      Alloc h_2 (.cells #[.int .u8 0, .slice none 0 0] 109) fun r1 h_3 =>
      St h_3 r1 (.int .u8 x_Kind) fun h_4 =>
      St h_4 (r1.add 1) (.slice x_Data.a x_Data.n x_Data.c) fun h_5 =>
      Ld (.int .u8) h_5 r1 fun (x_Kind1 : Int) =>
      Ld .sl h_5 (r1.add 1) fun (x_Data1 : Sl) =>
      C_wal_Append d (x_Kind1, x_Data1, ()) h_5 fun (r2 : Int) h_6 =>
      (bif r2 != 0 then
        R r2 h_6
      else
        go (IntKind.i64.wrap (x11 + 1)) h_6
      )
    else
      R 0 h_2
    )
    ) (0, ()) h_1
theorem E_hard_Write (d : Option Addr) (s : KL [.bool, .int .i64, .int .i64, .int .i64, .sl]) (h : Heap) (R : Int → Heap → Prop) :
    VF Tryz.prog [(26, [(11, .one (.int .i64))])] Tryz.f86 [.pointer d, .agg ⟨KL.vals [.bool, .int .i64, .int .i64, .int .i64, .sl] s⟩] h [.one (.int .i64)] R = S_hard_Write d s h R := by kernel_rfl
theorem A_hard_Write {d : Option Addr} {s : KL [.bool, .int .i64, .int .i64, .int .i64, .sl]} {h : Heap} {R : Int → Heap → Prop} (hs : S_hard_Write d s h R) : C_hard_Write d s h R :=
  use_ Tryz.func86 (by kernel_rfl) (E_hard_Write d s h R) hs

/-- hard.Records -/
def S_hard_Records (s : KL [.bool, .int .i64, .int .i64, .int .i64, .sl]) (h : Heap) (R : Sl → Heap → Prop) : Prop :=
  Alloc h (.cells #[.bool s.1, .int .i64 s.2.1, .int .i64 s.2.2.1, .int .i64 s.2.2.2.1, .slice s.2.2.2.2.1.a s.2.2.2.2.1.n s.2.2.2.2.1.c] 123) fun s1 h_ =>
  Ld .bool h_ s1 fun (Hard : Bool) =>
  Join [.one .sl] (fun _ (out : Sl) h_1 =>
    Ld .sl h_1 (s1.add 4) fun (Entries : Sl) =>
    Loop [.one .sl, .one (.int .i64)] (fun _ (out1 : Sl) (x22 : Int) h_2 go =>
      (bif decide (x22 < (Entries.n : Int)) then
        Ix Entries x22 2 fun e =>
        Ld (.int .i64) h_2 e fun (x_Term : Int) =>
        Ld .str h_2 (e.add 1) fun (x_Data : ByteArray) =>
        Alloc h_2 (.cells #[.int .i64 0, .string (⟨#[]⟩ : ByteArray)] 40) fun e1 h_3 =>
        St h_3 e1 (.int .i64 x_Term) fun h_4 =>
        St h_4 (e1.add 1) (.string x_Data) fun h_5 =>
        Ld (.int .i64) h_5 (s1.add 3) fun (From : Int) =>
        Ld (.int .i64) h_5 e1 fun (Term : Int) =>
        C_word_Int ⟨none, 0, 0⟩ (IntKind.i64.wrap (From + x22)) h_5 fun (r : Sl) h_6 =>
        (Ld (.int .i64) h_6 e1 fun (Term1 : Int) => (.int .i64 Term1 : Value) = .int .i64 Term) ∧
        C_word_Int r Term h_6 fun (r1 : Sl) h_7 =>
        Ld .str h_7 (e1.add 1) fun (Data : ByteArray) =>
        C_word_Text r1 Data h_7 fun (r2 : Sl) h_8 =>
        Alloc h_8 (.cells #[.int .u8 2, .slice r2.a r2.n r2.c] 109) fun b h_9 =>
        App Tryz.prog 78 78 out1 ⟨some b, 1, 1⟩ h_9 fun s2 h_10 =>
        go s2 (IntKind.i64.wrap (x22 + 1)) h_10
      else
        R out1 h_2
      )
      ) (out, 0, ()) h_1
    ) fun J =>
  (bif Hard then
    Ld (.int .i64) h_ (s1.add 1) fun (Term2 : Int) =>
    Ld (.int .i64) h_ (s1.add 2) fun (Vote : Int) =>
    C_word_Int ⟨none, 0, 0⟩ Term2 h_ fun (r3 : Sl) h_11 =>
    (Ld (.int .i64) h_11 (s1.add 2) fun (Vote1 : Int) => (.int .i64 Vote1 : Value) = .int .i64 Vote) ∧
    C_word_Int r3 Vote h_11 fun (r4 : Sl) h_12 =>
    Alloc h_12 (.cells #[.int .u8 1, .slice r4.a r4.n r4.c] 109) fun b1 h_13 =>
    App Tryz.prog 78 78 ⟨none, 0, 0⟩ ⟨some b1, 1, 1⟩ h_13 fun s3 h_14 =>
    J s3 h_14
  else
    J ⟨none, 0, 0⟩ h_
  )
theorem E_hard_Records (s : KL [.bool, .int .i64, .int .i64, .int .i64, .sl]) (h : Heap) (R : Sl → Heap → Prop) :
    VF Tryz.prog [(29, [(3, .one .sl)]), (122, [(3, .one .sl), (22, .one (.int .i64))])] Tryz.f107 [.agg ⟨KL.vals [.bool, .int .i64, .int .i64, .int .i64, .sl] s⟩] h [.one .sl] R = S_hard_Records s h R := by kernel_rfl
theorem A_hard_Records {s : KL [.bool, .int .i64, .int .i64, .int .i64, .sl]} {h : Heap} {R : Sl → Heap → Prop} (hs : S_hard_Records s h R) : C_hard_Records s h R :=
  use_ Tryz.func107 (by kernel_rfl) (E_hard_Records s h R) hs

end Go.Proofs.YtniojdaddolnfaaGreat
