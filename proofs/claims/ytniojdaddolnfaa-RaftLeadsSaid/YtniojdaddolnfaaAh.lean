/-
  Layer 8 (raft): RaftAlone over the heap alone.
-/
import Derived.Test.YtniojdaddolnfaaAg
namespace Go.Proofs.Ytniojdaddolnfaa
open Go

def eStr : Enc ByteArray 1 := ⟨fun a => [.string a], fun _ => rfl, by decide, fun x u hu => by
  simp only [List.mem_cons, List.not_mem_nil, or_false] at hu
  rcases hu with rfl; rfl⟩
section
open Go.ChangeShapes Go.WideShapes
variable {H : Type} {enc : TypeId × Value → H} {w : World} {b0 : Nat} {v : Value} {d : DataW H} {ps : List MemPlace}
set_option maxRecDepth 100000 in
theorem args_strs (hval : Value.okWide Try.prog w .any b0 24 v) (hd : DataW.Trod enc Try.prog w 0 (fun _ => true) true 24 v d ps) (hf : Fits Try.prog 24 d) :
    ∃ (s : Sl) (xs : List ByteArray), v = s.v ∧ RdS w.heap 1 s (eStr.fl xs) := by
  obtain ⟨s, css, h1, _, h3, h4, _⟩ := args_sl (sz := 1) Try.underlying24 (by kernel_rfl) (by decide) (of_decide_eq_true (by kernel_rfl)) (els_str Try.underlying9) hval hd hf
  obtain ⟨xs, h6, _, _⟩ := cells_of eStr.cells (fun _ => True) fun c hc => by obtain ⟨_, b, hb, _⟩ := h3 c hc; exact ⟨b, hb, trivial⟩
  rw [h6] at h4
  exact ⟨s, xs, h1, h4.rd⟩
end
set_option maxHeartbeats 1600000 in
theorem law08_RaftAlone_ok {elect draw : Int} {l : Sl} {hB : Heap} {xs : List ByteArray} (w0 : 0 ≤ elect ∧ elect ≤ 65535) (w1 : 0 ≤ draw ∧ draw ≤ 4294967295) (A : RdS hB 1 l (eStr.fl xs)) : C_law08_RaftAlone elect draw l hB fun r h' => r = true ∧ Ext hB.size hB h' := by
  refine A_law08_RaftAlone ?_
  unfold S_law08_RaftAlone
  have hn := rdn A
  refine law08_fixed_ok fun h1 e1 => brN rfl (brD (fun _ => ⟨rfl, e1⟩) fun hc => ?_)
  refine nz (by decide) (let_ ?_)
  rw [rem_nonneg w0.1, w64 (n := elect % 1000) (by omega) (by omega), w64 (n := 1 + elect % 1000) (by omega) (by omega), w64 (n := draw) (by omega) (by omega)]
  generalize he : 1 + elect % 1000 = e at *
  have he1 : 1 ≤ e ∧ e ≤ 1000 := by omega
  clear he
  refine raft_New_ok (At.of_ext e1) rds_nil (by decide) (fun hb => by omega) (fun hn => absurd okS_nil hn) fun _ _ h2 d H => ?_
  have H : RaftAt hB h2 d (waitS e 0) [] := H
  refine brN rfl (nz (by omega) (let_ ?_))
  rw [rem_nonneg w1.1]
  have hm0 := Int.emod_nonneg draw (show e ≠ 0 by omega)
  have hm1 := Int.emod_lt_of_pos draw (show 0 < e by omega)
  rw [w64 (n := e + draw % e) (by omega) (by omega)]
  generalize hw : e + draw % e = wt at *
  have hw1 : 1 ≤ wt ∧ wt ≤ 2000 := by omega
  refine loop1 (s1 := .one (.int .i64)) (fun (x : Int) h3 => ∃ j : Nat, x = j ∧ (j : Int) ≤ wt ∧ RaftAt hB h3 d (if (j : Int) < wt then waitS e j else aloneS e []) []) (fun (x : Int) _ => (wt - x).toNat)
    ⟨0, rfl, by show (0 : Int) ≤ _; omega, by rw [if_pos (by show (0 : Int) < _; omega)]; exact H⟩ fun _ (x : Int) h3 hI => ?_
  clear H
  obtain ⟨j, rfl, hj, H⟩ := hI
  refine brD (fun hc2 => ?_) fun hc2 => ?_
  · rw [if_pos hc2] at H
    refine join1 (s1 := .one .bool) (fun (q : Bool) h4 => q = false ∧ h4 = h3) (fun _ (q : Bool) h4 hJ => ?_) ?_
    rotate_left
    · refine raft_Role_ok H (brN rfl (raft_Term_ok H ⟨rfl, rfl⟩))
    obtain ⟨rfl, rfl⟩ := hJ
    refine brF (raft_Tick_ok H (rb_wait e j) (by show (0 : Int) ≤ 0; decide) ⟨(by decide : (0 : Int) ≤ 0), (by decide : (0 : Int) ≤ 1099511627776)⟩ ⟨(by omega : (0 : Int) ≤ j), (by omega : (j : Int) ≤ 1000000000)⟩ ⟨(by decide : (0 : Int) ≤ 0), (by decide : (0 : Int) ≤ 1000000000)⟩ he1 (by show (0 : Nat) < 128; decide) (Nat.zero_le _) fun h5 H => ?_)
    rw [tick_alone e j draw w1.1, hw] at H
    refine raft_Role_ok H ?_
    rw [w64 (n := wt - 1) (by omega) (by omega), w64 (n := (j : Int) + 1) (by omega) (by omega)]
    by_cases hl : (j : Int) + 1 ≥ wt
    · rw [if_pos hl] at H
      refine brN (by
        rw [if_pos hl, show ((j : Int) == wt - 1) = true from beq_iff_eq.2 (by omega)]; rfl) ?_
      exact ⟨⟨j + 1, by omega, by omega, by rw [if_neg (by omega)]; exact H⟩, by omega⟩
    · rw [if_neg hl] at H
      refine brN (by
        rw [if_neg hl, show ((j : Int) == wt - 1) = false from beq_eq_false_iff_ne.2 (by omega)]; rfl) ?_
      exact ⟨⟨j + 1, by omega, by omega, by rw [if_pos (by omega)]; exact H⟩, by omega⟩
  · rw [if_neg (by omega)] at H
    refine loop1 (s1 := .one (.int .i64)) (fun (x : Int) h4 => ∃ j : Nat, x = j ∧ j ≤ xs.length ∧ RaftAt hB h4 d (aloneS e (xs.take j)) []) (fun (x : Int) _ => (xs.length - x).toNat)
      ⟨0, rfl, Nat.zero_le _, H⟩ fun _ (x : Int) h4 hI => ?_
    clear H
    obtain ⟨k, rfl, hk, H⟩ := hI
    have hlt : (xs.take k).length = k := by rw [List.length_take]; omega
    refine brD (fun hc3 => ?_) fun hc3 => ?_
    · have hk2 : k < xs.length := by omega
      refine ixR (H.ats.arg A) k rfl hk2 fun e2 he2 => ?_
      refine ldR0 (H.ats.arg A) he2 hk2 xs[k] rfl ?_
      refine brD (fun _ => ⟨rfl, H.ats.ext⟩) fun hs => ?_
      have hp := propose_alone e (xs.take k) xs[k] (by omega) (by omega)
      have ha := add_alone e (xs.take k) xs[k] (by omega)
      rw [← List.take_succ_eq_append_getElem hk2, hlt] at hp
      rw [← List.take_succ_eq_append_getElem hk2] at ha
      have hlt2 : (xs.take (k + 1)).length = k + 1 := by rw [List.length_take]; omega
      refine raft_Propose_ok H (rb_alone e _ (by omega)) (by show (0 : Int) ≤ (((xs.take k).length + 1 : Nat) : Int); omega) (Nat.zero_le _) (by rw [ha]; show (_ :: (xs.take (k + 1)).map _).length ≤ _; rw [List.length_cons, List.length_map]; omega) fun h5 H => ?_
      rw [hp] at H ⊢
      rw [w64 (n := (k : Int) + 2) (by omega) (by omega)]
      refine raft_Committed_ok H (by show (_ :: (xs.take (k + 1)).map _).length ≤ _; rw [List.length_cons, List.length_map]; omega) (by show (((xs.take (k + 1)).length + 1 : Nat) : Int) ≤ _; omega) fun r8 h6 H => ?_
      have hcm := committed_alone e (xs.take k) xs[k]
      rw [← List.take_succ_eq_append_getElem hk2, hlt] at hcm
      have H : RaftAt hB h6 d (aloneS e (xs.take (k + 1))) (.own r8 2 (eRE.fl (committedM (aloneS e (xs.take (k + 1))) ((k : Int) + 2))) :: []) := H
      rw [hcm] at H
      have hr8 := H.ats.n 0 rfl
      refine brN rfl (brN (by show (((k + 2 : Nat) : Int) != (k : Int) + 2) = false; simp) ?_)
      refine raft_Commit_ok H (brN (bne_eq_false_iff_eq.2 (show (((xs.take (k + 1)).length + 1 : Nat) : Int) = ((k + 2 : Nat) : Int) by omega)) ?_)
      refine brN (by rw [hr8]; rfl) ?_
      have A1 := H.ats
      refine ixAt (E := eRE) (l := [⟨1, xs[k]⟩]) A1 0 rfl 0 rfl (by simp) fun e3 he3 => ?_
      refine ldEl (E := eRE) (l := [⟨1, xs[k]⟩]) (j := 1) A1 0 rfl he3 (by simp) xs[k] rfl (brN (by simp) ?_)
      refine ixAt (E := eRE) (l := [⟨1, xs[k]⟩]) A1 0 rfl 0 rfl (by simp) fun e3 he3 => ?_
      refine ldEl0 (E := eRE) (l := [⟨1, xs[k]⟩]) A1 0 rfl he3 (by simp) (1 : Int) rfl (brN rfl ?_)
      rw [w64 (by omega) (by omega)]
      exact ⟨⟨k + 1, by omega, by omega, H.tail⟩, by omega⟩
    · refine raft_Out_ok H fun so z h5 hz H => ?_
      have hso := H.ats.n 0 rfl
      have hz0 : z.length = 0 := by rw [← List.length_map (f := Prod.fst), hz]; rfl
      refine brY (by rw [hso, hz0]; rfl) (raft_Leader_ok H ⟨rfl, H.ats.ext⟩)
end Go.Proofs.Ytniojdaddolnfaa
