/-
  Layer 4 (disk): contracts of the program's calls, over a row of things.
-/
import Derived.Test.YtnognoiaakiepaaRg
import Derived.Test.YtnognoiaakiepaaRc
import Derived.Test.YtnognoiaakiepaaBC
import Derived.Test.YtnognoiaakiepaaC2
import Derived.Test.YtnognoiaakiepaaSB
namespace Go.Proofs.Ytnognoiaakiepaa
open Go

def flp (l : List UInt8) (i : Nat) (c : UInt8) : List UInt8 := match l[i]? with | some b => l.set i (b ^^^ c) | none => l
theorem flp_in {l : List UInt8} {i : Nat} (hi : i < l.length) (c : UInt8) : flp l i c = l.set i (l[i] ^^^ c) := by unfold flp; rw [List.getElem?_eq_getElem hi]
theorem flp_out {l : List UInt8} {i : Nat} (hi : l.length ≤ i) (c : UInt8) : flp l i c = l := by unfold flp; rw [List.getElem?_eq_none hi]
theorem flp_length (l : List UInt8) (i : Nat) (c : UInt8) : (flp l i c).length = l.length := by unfold flp; split <;> simp
theorem flp_app1 {a b : List UInt8} {i : Nat} (hi : i < a.length) (c : UInt8) : flp (a ++ b) i c = flp a i c ++ b := by
  rw [flp_in (by rw [List.length_append]; omega), flp_in hi, List.getElem_append_left hi, List.set_append_left _ _ hi]
theorem flp_app2 {a b : List UInt8} {i : Nat} (hi : a.length ≤ i) (c : UInt8) : flp (a ++ b) i c = a ++ flp b (i - a.length) c := by
  unfold flp
  rw [List.getElem?_append_right hi]
  split
  · rw [List.set_append_right _ _ hi]
  · rfl
theorem xor_byte (b c : UInt8) : bitV .xor .u8 (b.toNat : Int) (c.toNat : Int) = ((b ^^^ c).toNat : Int) := by
  rw [xor_u8' b.toNat_lt c.toNat_lt, UInt8.toNat_xor]
theorem xor_ne {b c : UInt8} (hc : c.toNat ≠ 0) : b ^^^ c ≠ b := by
  intro e
  have := congrArg UInt8.toNat e
  rw [UInt8.toNat_xor] at this
  have h3 : b.toNat ^^^ c.toNat = b.toNat ^^^ 0 := by rw [Nat.xor_zero]; exact this
  exact hc (xor_inj' h3)
/-- A disk: its bytes, how many are synced. -/
def diskL (d : Nat) (ty : TypeId) (s : Sl) (b : List UInt8) (n : Nat) : List Res := [.blk d ty [.slice s.a s.n s.c, .int .i64 (n : Int)], .own s 1 (cB b)]
def crashL (all : List UInt8) (k : Nat) (keep at_ : Int) (c : UInt8) : List UInt8 :=
  if 0 ≤ at_ ∧ at_ < (min keep.toNat (all.length - k) : Nat) then flp (all.take (k + min keep.toNat (all.length - k))) (k + at_.toNat) c else all.take (k + min keep.toNat (all.length - k))
section
variable {h0 h : Heap} {F : List Res} {d : Nat} {ty : TypeId} {s : Sl} {b : List UInt8} {n : Nat}
theorem At.nB {L : List Res} {s : Sl} {l : List UInt8} (H : At h0 h L) (i : Nat) (hi : L[i]? = some (.own s 1 (cB l))) : s.n = l.length := rd_b (H.rdo i hi)
/-- A byte that is written. -/
theorem stByte {L : List Res} {s : Sl} {l : List UInt8} {i : Int} {K : Heap → Prop} (H : At h0 h L) (m : Nat) (hm : L[m]? = some (.own s 1 (cB l))) (k : Nat) (hi : i = (k : Int)) (hk : k < l.length) (v : UInt8)
    (hK : ∀ h', At h0 h' (L.set m (.own s 1 (cB (l.set k v)))) → K h') : Ix s i 1 fun e => St h e (.int .u8 (v.toNat : Nat)) K := by
  have hn := H.nB m hm
  refine setO0 (H.own m hm) k hi (by omega) (by decide) fun h' o u _ => ?_
  rw [Nat.mul_one, cB_set] at o
  exact hK h' (H.turn m hm (r' := .own s 1 (cB (l.set k v))) u o fun g hg => .inl hg)
theorem disk_New_ok {L : List Res} {R : Option Addr → Heap → Prop} (H : At h0 h L) (hR : ∀ h' d ty, At h0 h' (diskL d ty ⟨none, 0, 0⟩ [] 0 ++ L) → R (some ⟨d, 0, none⟩) h') : C_disk_New h R := by
  refine A_disk_New ?_
  unfold S_disk_New
  exact allocAt (H.nil 1) fun h' d H => hR h' d _ H
theorem disk_Len_ok {R : Int → Heap → Prop} (H : At h0 h (diskL d ty s b n ++ F)) (hR : R (b.length : Int) h) : C_disk_Disk_Len (some ⟨d, 0, none⟩) h R := by
  refine A_disk_Disk_Len ?_
  unfold S_disk_Disk_Len
  have hn := H.nB 1 rfl
  rw [← hn] at hR
  repeat (first | with_reducible refine nn ?_ | with_reducible refine let_ ?_ | with_reducible refine brSome ?_ | with_reducible refine brF ?_ | with_reducible refine brT ?_ | ((with_reducible apply ldAt H 0); exact rfl; exact rfl) | ((with_reducible apply ldAt0 H 0); exact rfl; exact rfl) | ((with_reducible apply ldAt H 1); exact rfl; exact rfl) | ((with_reducible apply ldAt0 H 1); exact rfl; exact rfl) | ((with_reducible apply stAt H 0); exact rfl; exact rfl; intro h H) | ((with_reducible apply stAt0 H 0); exact rfl; exact rfl; intro h H) | ((with_reducible apply stAt H 1); exact rfl; exact rfl; intro h H) | ((with_reducible apply stAt0 H 1); exact rfl; exact rfl; intro h H) | ((with_reducible apply allocAt H); intro h b H) | ((with_reducible refine ⟨?_, ?_⟩); first | ((with_reducible apply ldAt H 0); exact rfl; exact rfl; exact rfl) | ((with_reducible apply ldAt0 H 0); exact rfl; exact rfl; exact rfl) | ((with_reducible apply ldAt H 1); exact rfl; exact rfl; exact rfl) | ((with_reducible apply ldAt0 H 1); exact rfl; exact rfl; exact rfl)))
  exact hR
theorem disk_Synced_ok {R : Int → Heap → Prop} (H : At h0 h (diskL d ty s b n ++ F)) (hR : R (n : Int) h) : C_disk_Disk_Synced (some ⟨d, 0, none⟩) h R := by
  refine A_disk_Disk_Synced ?_
  unfold S_disk_Disk_Synced
  repeat (first | with_reducible refine nn ?_ | with_reducible refine let_ ?_ | with_reducible refine brSome ?_ | with_reducible refine brF ?_ | with_reducible refine brT ?_ | ((with_reducible apply ldAt H 0); exact rfl; exact rfl) | ((with_reducible apply ldAt0 H 0); exact rfl; exact rfl) | ((with_reducible apply ldAt H 1); exact rfl; exact rfl) | ((with_reducible apply ldAt0 H 1); exact rfl; exact rfl) | ((with_reducible apply stAt H 0); exact rfl; exact rfl; intro h H) | ((with_reducible apply stAt0 H 0); exact rfl; exact rfl; intro h H) | ((with_reducible apply stAt H 1); exact rfl; exact rfl; intro h H) | ((with_reducible apply stAt0 H 1); exact rfl; exact rfl; intro h H) | ((with_reducible apply allocAt H); intro h b H) | ((with_reducible refine ⟨?_, ?_⟩); first | ((with_reducible apply ldAt H 0); exact rfl; exact rfl; exact rfl) | ((with_reducible apply ldAt0 H 0); exact rfl; exact rfl; exact rfl) | ((with_reducible apply ldAt H 1); exact rfl; exact rfl; exact rfl) | ((with_reducible apply ldAt0 H 1); exact rfl; exact rfl; exact rfl)))
  exact hR
theorem disk_Sync_ok {R : Int → Heap → Prop} (H : At h0 h (diskL d ty s b n ++ F)) (hR : ∀ h', At h0 h' (diskL d ty s b b.length ++ F) → R 0 h') : C_disk_Disk_Sync (some ⟨d, 0, none⟩) h R := by
  refine A_disk_Disk_Sync ?_
  unfold S_disk_Disk_Sync
  have hn := H.nB 1 rfl
  repeat (first | with_reducible refine nn ?_ | with_reducible refine let_ ?_ | with_reducible refine brSome ?_ | with_reducible refine brF ?_ | with_reducible refine brT ?_ | ((with_reducible apply ldAt H 0); exact rfl; exact rfl) | ((with_reducible apply ldAt0 H 0); exact rfl; exact rfl) | ((with_reducible apply ldAt H 1); exact rfl; exact rfl) | ((with_reducible apply ldAt0 H 1); exact rfl; exact rfl) | ((with_reducible apply stAt H 0); exact rfl; exact rfl; intro h H) | ((with_reducible apply stAt0 H 0); exact rfl; exact rfl; intro h H) | ((with_reducible apply stAt H 1); exact rfl; exact rfl; intro h H) | ((with_reducible apply stAt0 H 1); exact rfl; exact rfl; intro h H) | ((with_reducible apply allocAt H); intro h b H) | ((with_reducible refine ⟨?_, ?_⟩); first | ((with_reducible apply ldAt H 0); exact rfl; exact rfl; exact rfl) | ((with_reducible apply ldAt0 H 0); exact rfl; exact rfl; exact rfl) | ((with_reducible apply ldAt H 1); exact rfl; exact rfl; exact rfl) | ((with_reducible apply ldAt0 H 1); exact rfl; exact rfl; exact rfl)))
  refine hR _ ?_
  rw [← hn]
  exact H
theorem disk_Write_ok {x : Sl} {xs : List UInt8} {R : Int → Heap → Prop} (H : At h0 h (diskL d ty s b n ++ F)) (hx : RdS h 1 x (cB xs)) (hl : b.length ≤ 1048576) (hx2 : xs.length ≤ 1000000000000) (h1 : 1048576 < b.length + xs.length → R 7 h)
    (h2 : b.length + xs.length ≤ 1048576 → ∀ h' s', At h0 h' (diskL d ty s' (b ++ xs) n ++ F) → R 0 h') : C_disk_Disk_Write (some ⟨d, 0, none⟩) x h R := by
  refine A_disk_Disk_Write ?_
  unfold S_disk_Disk_Write
  have hn := H.nB 1 rfl
  have hxn := rd_b hx
  repeat (first | with_reducible refine nn ?_ | with_reducible refine let_ ?_ | with_reducible refine brSome ?_ | with_reducible refine brF ?_ | with_reducible refine brT ?_ | ((with_reducible apply ldAt H 0); exact rfl; exact rfl) | ((with_reducible apply ldAt0 H 0); exact rfl; exact rfl) | ((with_reducible apply ldAt H 1); exact rfl; exact rfl) | ((with_reducible apply ldAt0 H 1); exact rfl; exact rfl) | ((with_reducible apply stAt H 0); exact rfl; exact rfl; intro h H) | ((with_reducible apply stAt0 H 0); exact rfl; exact rfl; intro h H) | ((with_reducible apply stAt H 1); exact rfl; exact rfl; intro h H) | ((with_reducible apply stAt0 H 1); exact rfl; exact rfl; intro h H) | ((with_reducible apply allocAt H); intro h b H) | ((with_reducible refine ⟨?_, ?_⟩); first | ((with_reducible apply ldAt H 0); exact rfl; exact rfl; exact rfl) | ((with_reducible apply ldAt0 H 0); exact rfl; exact rfl; exact rfl) | ((with_reducible apply ldAt H 1); exact rfl; exact rfl; exact rfl) | ((with_reducible apply ldAt0 H 1); exact rfl; exact rfl; exact rfl)))
  rw [w64 (by omega) (by omega)]
  refine brD (fun hc => h1 (by omega)) fun hc => ?_
  repeat (first | with_reducible refine nn ?_ | with_reducible refine let_ ?_ | with_reducible refine brSome ?_ | with_reducible refine brF ?_ | with_reducible refine brT ?_ | ((with_reducible apply ldAt H 0); exact rfl; exact rfl) | ((with_reducible apply ldAt0 H 0); exact rfl; exact rfl) | ((with_reducible apply ldAt H 1); exact rfl; exact rfl) | ((with_reducible apply ldAt0 H 1); exact rfl; exact rfl) | ((with_reducible apply stAt H 0); exact rfl; exact rfl; intro h H) | ((with_reducible apply stAt0 H 0); exact rfl; exact rfl; intro h H) | ((with_reducible apply stAt H 1); exact rfl; exact rfl; intro h H) | ((with_reducible apply stAt0 H 1); exact rfl; exact rfl; intro h H) | ((with_reducible apply allocAt H); intro h b H) | ((with_reducible refine ⟨?_, ?_⟩); first | ((with_reducible apply ldAt H 0); exact rfl; exact rfl; exact rfl) | ((with_reducible apply ldAt0 H 0); exact rfl; exact rfl; exact rfl) | ((with_reducible apply ldAt H 1); exact rfl; exact rfl; exact rfl) | ((with_reducible apply ldAt0 H 1); exact rfl; exact rfl; exact rfl)))
  refine appB (H.own 1 rfl) hx (by omega) fun s' h' o' g' => ?_
  have H := H.turn 1 rfl (r' := .own s' 1 (cB (b ++ xs))) g'.upd o' g'.stp.grow
  repeat (first | with_reducible refine nn ?_ | with_reducible refine let_ ?_ | with_reducible refine brSome ?_ | with_reducible refine brF ?_ | with_reducible refine brT ?_ | ((with_reducible apply ldAt H 0); exact rfl; exact rfl) | ((with_reducible apply ldAt0 H 0); exact rfl; exact rfl) | ((with_reducible apply ldAt H 1); exact rfl; exact rfl) | ((with_reducible apply ldAt0 H 1); exact rfl; exact rfl) | ((with_reducible apply stAt H 0); exact rfl; exact rfl; intro h H) | ((with_reducible apply stAt0 H 0); exact rfl; exact rfl; intro h H) | ((with_reducible apply stAt H 1); exact rfl; exact rfl; intro h H) | ((with_reducible apply stAt0 H 1); exact rfl; exact rfl; intro h H) | ((with_reducible apply allocAt H); intro h b H) | ((with_reducible refine ⟨?_, ?_⟩); first | ((with_reducible apply ldAt H 0); exact rfl; exact rfl; exact rfl) | ((with_reducible apply ldAt0 H 0); exact rfl; exact rfl; exact rfl) | ((with_reducible apply ldAt H 1); exact rfl; exact rfl; exact rfl) | ((with_reducible apply ldAt0 H 1); exact rfl; exact rfl; exact rfl)))
  exact h2 (by omega) _ s' H
theorem disk_Bytes_ok {R : Sl → Heap → Prop} (H : At h0 h (diskL d ty s b n ++ F)) (hl : b.length ≤ 1048576) (hR : ∀ r h', Own h' 1 r (cB b) → r.from_ h.size → Ext h.size h h' → R r h') : C_disk_Disk_Bytes (some ⟨d, 0, none⟩) h R := by
  refine A_disk_Disk_Bytes ?_
  unfold S_disk_Disk_Bytes
  have H1 := H
  repeat (first | with_reducible refine nn ?_ | with_reducible refine let_ ?_ | with_reducible refine brSome ?_ | with_reducible refine brF ?_ | with_reducible refine brT ?_ | ((with_reducible apply ldAt H 0); exact rfl; exact rfl) | ((with_reducible apply ldAt0 H 0); exact rfl; exact rfl) | ((with_reducible apply ldAt H 1); exact rfl; exact rfl) | ((with_reducible apply ldAt0 H 1); exact rfl; exact rfl) | ((with_reducible apply stAt H 0); exact rfl; exact rfl; intro h H) | ((with_reducible apply stAt0 H 0); exact rfl; exact rfl; intro h H) | ((with_reducible apply stAt H 1); exact rfl; exact rfl; intro h H) | ((with_reducible apply stAt0 H 1); exact rfl; exact rfl; intro h H) | ((with_reducible apply allocAt H); intro h b H) | ((with_reducible refine ⟨?_, ?_⟩); first | ((with_reducible apply ldAt H 0); exact rfl; exact rfl; exact rfl) | ((with_reducible apply ldAt0 H 0); exact rfl; exact rfl; exact rfl) | ((with_reducible apply ldAt H 1); exact rfl; exact rfl; exact rfl) | ((with_reducible apply ldAt0 H 1); exact rfl; exact rfl; exact rfl)))
  exact bytes_Clone_ok (H1.rdo 1 rfl) (by omega) hR
theorem disk_Spoil_ok {at_ by_ : Int} {c : UInt8} {R : Int → Heap → Prop} (H : At h0 h (diskL d ty s b n ++ F)) (hc : by_ = (c.toNat : Int)) (hnb : n ≤ b.length) (h1 : (at_ < 0 ∨ (n : Int) ≤ at_) → R 5 h)
    (h2 : ∀ k : Nat, at_ = k → k < n → ∀ h', At h0 h' (diskL d ty s (flp b k c) n ++ F) → R 0 h') : C_disk_Disk_Spoil (some ⟨d, 0, none⟩) at_ by_ h R := by
  refine A_disk_Disk_Spoil ?_
  unfold S_disk_Disk_Spoil
  subst hc
  refine join0 (fun h' => h' = h ∧ 0 ≤ at_ ∧ at_ < n) (fun _ h' hJ => ?_) ?_
  · obtain ⟨rfl, ha, hb⟩ := hJ
    obtain ⟨k, rfl⟩ : ∃ k : Nat, at_ = k := ⟨at_.toNat, by omega⟩
    have hkb : k < b.length := by omega
    repeat (first | with_reducible refine nn ?_ | with_reducible refine let_ ?_ | with_reducible refine brSome ?_ | with_reducible refine brF ?_ | with_reducible refine brT ?_ | ((with_reducible apply ldAt H 0); exact rfl; exact rfl) | ((with_reducible apply ldAt0 H 0); exact rfl; exact rfl) | ((with_reducible apply ldAt H 1); exact rfl; exact rfl) | ((with_reducible apply ldAt0 H 1); exact rfl; exact rfl) | ((with_reducible apply stAt H 0); exact rfl; exact rfl; intro h H) | ((with_reducible apply stAt0 H 0); exact rfl; exact rfl; intro h H) | ((with_reducible apply stAt H 1); exact rfl; exact rfl; intro h H) | ((with_reducible apply stAt0 H 1); exact rfl; exact rfl; intro h H) | ((with_reducible apply allocAt H); intro h b H) | ((with_reducible refine ⟨?_, ?_⟩); first | ((with_reducible apply ldAt H 0); exact rfl; exact rfl; exact rfl) | ((with_reducible apply ldAt0 H 0); exact rfl; exact rfl; exact rfl) | ((with_reducible apply ldAt H 1); exact rfl; exact rfl; exact rfl) | ((with_reducible apply ldAt0 H 1); exact rfl; exact rfl; exact rfl)))
    refine ixcB (H.rdo 1 rfl) k rfl hkb ?_
    rw [xor_byte]
    refine stByte H 1 rfl k rfl hkb _ fun h' H' => h2 k rfl (by omega) h' ?_
    rw [flp_in hkb]; exact H'
  · refine brF (brD (fun hc => h1 (.inl hc)) fun hc => ?_)
    repeat (first | with_reducible refine nn ?_ | with_reducible refine let_ ?_ | with_reducible refine brSome ?_ | with_reducible refine brF ?_ | with_reducible refine brT ?_ | ((with_reducible apply ldAt H 0); exact rfl; exact rfl) | ((with_reducible apply ldAt0 H 0); exact rfl; exact rfl) | ((with_reducible apply ldAt H 1); exact rfl; exact rfl) | ((with_reducible apply ldAt0 H 1); exact rfl; exact rfl) | ((with_reducible apply stAt H 0); exact rfl; exact rfl; intro h H) | ((with_reducible apply stAt0 H 0); exact rfl; exact rfl; intro h H) | ((with_reducible apply stAt H 1); exact rfl; exact rfl; intro h H) | ((with_reducible apply stAt0 H 1); exact rfl; exact rfl; intro h H) | ((with_reducible apply allocAt H); intro h b H) | ((with_reducible refine ⟨?_, ?_⟩); first | ((with_reducible apply ldAt H 0); exact rfl; exact rfl; exact rfl) | ((with_reducible apply ldAt0 H 0); exact rfl; exact rfl; exact rfl) | ((with_reducible apply ldAt H 1); exact rfl; exact rfl; exact rfl) | ((with_reducible apply ldAt0 H 1); exact rfl; exact rfl; exact rfl)))
    exact brD (fun hc => h1 (.inr (by omega))) fun hc => ⟨rfl, by omega, by omega⟩
theorem disk_Cut_ok {m : Int} {R : Int → Heap → Prop} (H : At h0 h (diskL d ty s b n ++ F)) (h1 : (m < 0 ∨ (b.length : Int) < m) → R 5 h) (h2 : ∀ k : Nat, m = k → k ≤ b.length → ∀ h' s', At h0 h' (diskL d ty s' (b.take k) k ++ F) → R 0 h') :
    C_disk_Disk_Cut (some ⟨d, 0, none⟩) m h R := by
  refine A_disk_Disk_Cut ?_
  unfold S_disk_Disk_Cut
  have hn := H.nB 1 rfl
  refine join0 (fun h' => h' = h ∧ 0 ≤ m ∧ m ≤ b.length) (fun _ h' hJ => ?_) ?_
  · obtain ⟨rfl, ha, hb⟩ := hJ
    obtain ⟨k, rfl⟩ : ∃ k : Nat, m = k := ⟨m.toNat, by omega⟩
    have ho := H.own 1 rfl
    have hsc := ho.2.1
    repeat (first | with_reducible refine nn ?_ | with_reducible refine let_ ?_ | with_reducible refine brSome ?_ | with_reducible refine brF ?_ | with_reducible refine brT ?_ | ((with_reducible apply ldAt H 0); exact rfl; exact rfl) | ((with_reducible apply ldAt0 H 0); exact rfl; exact rfl) | ((with_reducible apply ldAt H 1); exact rfl; exact rfl) | ((with_reducible apply ldAt0 H 1); exact rfl; exact rfl) | ((with_reducible apply stAt H 0); exact rfl; exact rfl; intro h H) | ((with_reducible apply stAt0 H 0); exact rfl; exact rfl; intro h H) | ((with_reducible apply stAt H 1); exact rfl; exact rfl; intro h H) | ((with_reducible apply stAt0 H 1); exact rfl; exact rfl; intro h H) | ((with_reducible apply allocAt H); intro h b H) | ((with_reducible refine ⟨?_, ?_⟩); first | ((with_reducible apply ldAt H 0); exact rfl; exact rfl; exact rfl) | ((with_reducible apply ldAt0 H 0); exact rfl; exact rfl; exact rfl) | ((with_reducible apply ldAt H 1); exact rfl; exact rfl; exact rfl) | ((with_reducible apply ldAt0 H 1); exact rfl; exact rfl; exact rfl)))
    refine cutBO ho 0 k s.c lo0 (hii rfl) (.inl ⟨rfl, rfl⟩) (by omega) (by omega) (by omega) (Nat.le_refl _) fun s' o' n' c' b' => ?_
    rw [List.drop_zero, Nat.sub_zero] at o'
    have H := H.as_ 1 rfl (.own s' 1 (cB (b.take k))) o' fun g hg => by rw [Res.fp, ← b']; exact hg
    repeat (first | with_reducible refine nn ?_ | with_reducible refine let_ ?_ | with_reducible refine brSome ?_ | with_reducible refine brF ?_ | with_reducible refine brT ?_ | ((with_reducible apply ldAt H 0); exact rfl; exact rfl) | ((with_reducible apply ldAt0 H 0); exact rfl; exact rfl) | ((with_reducible apply ldAt H 1); exact rfl; exact rfl) | ((with_reducible apply ldAt0 H 1); exact rfl; exact rfl) | ((with_reducible apply stAt H 0); exact rfl; exact rfl; intro h H) | ((with_reducible apply stAt0 H 0); exact rfl; exact rfl; intro h H) | ((with_reducible apply stAt H 1); exact rfl; exact rfl; intro h H) | ((with_reducible apply stAt0 H 1); exact rfl; exact rfl; intro h H) | ((with_reducible apply allocAt H); intro h b H) | ((with_reducible refine ⟨?_, ?_⟩); first | ((with_reducible apply ldAt H 0); exact rfl; exact rfl; exact rfl) | ((with_reducible apply ldAt0 H 0); exact rfl; exact rfl; exact rfl) | ((with_reducible apply ldAt H 1); exact rfl; exact rfl; exact rfl) | ((with_reducible apply ldAt0 H 1); exact rfl; exact rfl; exact rfl)))
    refine disk_Sync_ok (s := s') H fun h' H' => h2 k rfl (by omega) h' s' ?_
    have e : (b.take k).length = k := by rw [List.length_take]; omega
    rw [e] at H'; exact H'
  · refine brF (brD (fun hc => h1 (.inl hc)) fun hc => ?_)
    repeat (first | with_reducible refine nn ?_ | with_reducible refine let_ ?_ | with_reducible refine brSome ?_ | with_reducible refine brF ?_ | with_reducible refine brT ?_ | ((with_reducible apply ldAt H 0); exact rfl; exact rfl) | ((with_reducible apply ldAt0 H 0); exact rfl; exact rfl) | ((with_reducible apply ldAt H 1); exact rfl; exact rfl) | ((with_reducible apply ldAt0 H 1); exact rfl; exact rfl) | ((with_reducible apply stAt H 0); exact rfl; exact rfl; intro h H) | ((with_reducible apply stAt0 H 0); exact rfl; exact rfl; intro h H) | ((with_reducible apply stAt H 1); exact rfl; exact rfl; intro h H) | ((with_reducible apply stAt0 H 1); exact rfl; exact rfl; intro h H) | ((with_reducible apply allocAt H); intro h b H) | ((with_reducible refine ⟨?_, ?_⟩); first | ((with_reducible apply ldAt H 0); exact rfl; exact rfl; exact rfl) | ((with_reducible apply ldAt0 H 0); exact rfl; exact rfl; exact rfl) | ((with_reducible apply ldAt H 1); exact rfl; exact rfl; exact rfl) | ((with_reducible apply ldAt0 H 1); exact rfl; exact rfl; exact rfl)))
    exact brD (fun hc => h1 (.inr (by omega))) fun hc => ⟨rfl, by omega, by omega⟩
theorem disk_Crash_ok {keep at_ by_ : Int} {c : UInt8} {R : Int → Heap → Prop} (H : At h0 h (diskL d ty s b n ++ F)) (hby : by_ = (c.toNat : Int)) (hnb : n ≤ b.length) (hl : b.length ≤ 1048576)
    (hR : ∀ h' s', At h0 h' (diskL d ty s' (crashL b n keep at_ c) n ++ F) → R 0 h') : C_disk_Disk_Crash (some ⟨d, 0, none⟩) keep at_ by_ h R := by
  refine A_disk_Disk_Crash ?_
  unfold S_disk_Disk_Crash
  subst hby
  have ho := H.own 1 rfl
  have hn := H.nB 1 rfl
  have hsc := ho.2.1
  unfold crashL at hR
  refine brSome (nn (ldAt0 H 0 rfl s rfl (nn (ldAt H 0 rfl (n : Int) rfl ?_))))
  have e1 : (if (IntKind.i64.wrap ((s.n : Int) - n)) < (if 0 > keep then 0 else keep) then IntKind.i64.wrap ((s.n : Int) - n) else if 0 > keep then 0 else keep : Int) = ((min keep.toNat (b.length - n) : Nat) : Int) := by
    rw [w64 (by omega) (by omega)]; split <;> split <;> omega
  rw [e1]
  generalize hkp : min keep.toNat (b.length - n) = kp at *
  have hkp' : n + kp ≤ b.length := by omega
  repeat (first | with_reducible refine nn ?_ | with_reducible refine let_ ?_ | with_reducible refine brSome ?_ | with_reducible refine brF ?_ | with_reducible refine brT ?_ | ((with_reducible apply ldAt H 0); exact rfl; exact rfl) | ((with_reducible apply ldAt0 H 0); exact rfl; exact rfl) | ((with_reducible apply ldAt H 1); exact rfl; exact rfl) | ((with_reducible apply ldAt0 H 1); exact rfl; exact rfl) | ((with_reducible apply stAt H 0); exact rfl; exact rfl; intro h H) | ((with_reducible apply stAt0 H 0); exact rfl; exact rfl; intro h H) | ((with_reducible apply stAt H 1); exact rfl; exact rfl; intro h H) | ((with_reducible apply stAt0 H 1); exact rfl; exact rfl; intro h H) | ((with_reducible apply allocAt H); intro h b H) | ((with_reducible refine ⟨?_, ?_⟩); first | ((with_reducible apply ldAt H 0); exact rfl; exact rfl; exact rfl) | ((with_reducible apply ldAt0 H 0); exact rfl; exact rfl; exact rfl) | ((with_reducible apply ldAt H 1); exact rfl; exact rfl; exact rfl) | ((with_reducible apply ldAt0 H 1); exact rfl; exact rfl; exact rfl)))
  rw [w64 (by omega) (by omega)]
  refine cutBO ho 0 (n + kp) s.c lo0 (hii (by omega)) (.inl ⟨rfl, rfl⟩) (by omega) (by omega) (by omega) (Nat.le_refl _) fun s' o' n' c' b' => ?_
  rw [List.drop_zero, Nat.sub_zero] at o'
  have H := H.as_ 1 rfl (.own s' 1 (cB (b.take (n + kp)))) o' fun g hg => by rw [Res.fp, ← b']; exact hg
  repeat (first | with_reducible refine nn ?_ | with_reducible refine let_ ?_ | with_reducible refine brSome ?_ | with_reducible refine brF ?_ | with_reducible refine brT ?_ | ((with_reducible apply ldAt H 0); exact rfl; exact rfl) | ((with_reducible apply ldAt0 H 0); exact rfl; exact rfl) | ((with_reducible apply ldAt H 1); exact rfl; exact rfl) | ((with_reducible apply ldAt0 H 1); exact rfl; exact rfl) | ((with_reducible apply stAt H 0); exact rfl; exact rfl; intro h H) | ((with_reducible apply stAt0 H 0); exact rfl; exact rfl; intro h H) | ((with_reducible apply stAt H 1); exact rfl; exact rfl; intro h H) | ((with_reducible apply stAt0 H 1); exact rfl; exact rfl; intro h H) | ((with_reducible apply allocAt H); intro h b H) | ((with_reducible refine ⟨?_, ?_⟩); first | ((with_reducible apply ldAt H 0); exact rfl; exact rfl; exact rfl) | ((with_reducible apply ldAt0 H 0); exact rfl; exact rfl; exact rfl) | ((with_reducible apply ldAt H 1); exact rfl; exact rfl; exact rfl) | ((with_reducible apply ldAt0 H 1); exact rfl; exact rfl; exact rfl)))
  have hl3 : (b.take (n + kp)).length = n + kp := by rw [List.length_take]; omega
  refine brD (fun ha => brD (fun hb => ?_) fun hb => ?_) fun ha => ?_
  · rw [if_pos ⟨ha, hb⟩] at hR
    repeat (first | with_reducible refine nn ?_ | with_reducible refine let_ ?_ | with_reducible refine brSome ?_ | with_reducible refine brF ?_ | with_reducible refine brT ?_ | ((with_reducible apply ldAt H 0); exact rfl; exact rfl) | ((with_reducible apply ldAt0 H 0); exact rfl; exact rfl) | ((with_reducible apply ldAt H 1); exact rfl; exact rfl) | ((with_reducible apply ldAt0 H 1); exact rfl; exact rfl) | ((with_reducible apply stAt H 0); exact rfl; exact rfl; intro h H) | ((with_reducible apply stAt0 H 0); exact rfl; exact rfl; intro h H) | ((with_reducible apply stAt H 1); exact rfl; exact rfl; intro h H) | ((with_reducible apply stAt0 H 1); exact rfl; exact rfl; intro h H) | ((with_reducible apply allocAt H); intro h b H) | ((with_reducible refine ⟨?_, ?_⟩); first | ((with_reducible apply ldAt H 0); exact rfl; exact rfl; exact rfl) | ((with_reducible apply ldAt0 H 0); exact rfl; exact rfl; exact rfl) | ((with_reducible apply ldAt H 1); exact rfl; exact rfl; exact rfl) | ((with_reducible apply ldAt0 H 1); exact rfl; exact rfl; exact rfl)))
    rw [w64 (by omega) (by omega)]
    have hk2 : n + at_.toNat < (b.take (n + kp)).length := by omega
    refine ixcB (H.rdo 1 rfl) (n + at_.toNat) (by omega) hk2 ?_
    rw [xor_byte]
    refine stByte H 1 rfl (n + at_.toNat) (by omega) hk2 _ fun h' H' => hR h' s' ?_
    rw [flp_in hk2]; exact H'
  · rw [if_neg (by omega)] at hR; exact hR _ s' H
  · rw [if_neg (by omega)] at hR; exact hR _ s' H
end
end Go.Proofs.Ytnognoiaakiepaa
