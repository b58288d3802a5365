/-
  Layer 30 (lease): the document's first rows: every order that the language leaves open.
-/
import Derived.Test.YtegbnmaglkpkjaaLa
import Derived.Test.YtegbnmaglkpkjaaSLN
namespace Go.Proofs.Ytegbnmaglkpkjaa
open Go

section
variable {h0 h : Heap} {L : List Res} {d : Nat} {ty : TypeId} {cs : List Value}
theorem leafA {s0 s1 s2 s3 : Sl} {J : Heap → Prop} (H : At h0 h (.blk d ty cs :: L)) (hc : Nat.ble 10 cs.length = true) (hJ : ∀ h', At h0 h' (.blk d ty ((((cs.set 2 (.slice s0.a s0.n s0.c)).set 3 (.slice s1.a s1.n s1.c)).set 4 (.slice s2.a s2.n s2.c)).set 5 (.slice s3.a s3.n s3.c)) :: L) → J h') :
    Nn (some ⟨d, 0, none⟩) fun p1 => St h (p1.add 2) (.slice s0.a s0.n s0.c) fun h1 => Nn (some ⟨d, 0, none⟩) fun p2 => St h1 (p2.add 3) (.slice s1.a s1.n s1.c) fun h2 => Nn (some ⟨d, 0, none⟩) fun p3 => St h2 (p3.add 4) (.slice s2.a s2.n s2.c) fun h3 => Nn (some ⟨d, 0, none⟩) fun p4 => St h3 (p4.add 5) (.slice s3.a s3.n s3.c) fun h4 => J h4 := by
  have hc := Nat.le_of_ble_eq_true hc
  refine nn (stAt H 0 rfl (Nat.ble_eq_true_of_le (by omega)) fun h1 H => nn ?_)
  refine stAt H 0 rfl (Nat.ble_eq_true_of_le (by rw [List.length_set]; omega)) fun h2 H => nn ?_
  refine stAt H 0 rfl (Nat.ble_eq_true_of_le (by rw [List.length_set, List.length_set]; omega)) fun h3 H => nn ?_
  exact stAt H 0 rfl (Nat.ble_eq_true_of_le (by rw [List.length_set, List.length_set, List.length_set]; omega)) fun h4 H => hJ _ H
theorem leafB {s0 s1 : Sl} {J : Heap → Prop} (H : At h0 h (.blk d ty cs :: L)) (hc : Nat.ble 10 cs.length = true) (hJ : ∀ h', At h0 h' (.blk d ty ((cs.set 6 (.slice s0.a s0.n s0.c)).set 7 (.slice s1.a s1.n s1.c)) :: L) → J h') :
    Nn (some ⟨d, 0, none⟩) fun p1 => St h (p1.add 6) (.slice s0.a s0.n s0.c) fun h1 => Nn (some ⟨d, 0, none⟩) fun p2 => St h1 (p2.add 7) (.slice s1.a s1.n s1.c) fun h2 => J h2 := by
  have hc := Nat.le_of_ble_eq_true hc
  refine nn (stAt H 0 rfl (Nat.ble_eq_true_of_le (by omega)) fun h1 H => nn ?_)
  exact stAt H 0 rfl (Nat.ble_eq_true_of_le (by rw [List.length_set]; omega)) fun h2 H => hJ _ H
end
def newX (sc sr sb st sw sp : Sl) (j : Nat) : RL := ⟨sc, sr, sb, st, sw, sp, ⟨none, 0, 0⟩, ⟨none, 0, 0⟩, List.replicate j 0, List.replicate j 0, List.replicate j 0, List.replicate j 0, List.replicate j (-1), List.replicate j 0, [], []⟩
set_option maxHeartbeats 8000000 in
theorem ref30_New_at {h0 h : Heap} {F : List Res} {k : Nat} {len skew : Int} {R : Option Addr → Heap → Prop} (H : At h0 h F) (hk : k ≤ 7)
    (hR : ∀ d h' sc sr sb st sw sp, At h0 h' (refL d len skew (newX sc sr sb st sw sp k) ++ F) → R (some ⟨d, 0, none⟩) h') : C_ref30_New (k : Int) len skew h R := by
  refine A_ref30_New ?_
  unfold S_ref30_New
  have H := (((((((H.nil 4).nil 3).nil 1).nil 1).nil 1).nil 1).nil 1).nil 1
  refine allocAt H fun h1 d H => ?_
  refine loop1 (s1 := .one (.int .i64)) (fun (x : Int) h2 => ∃ (j : Nat) (sc sr sb st sw sp : Sl), x = j ∧ j ≤ k ∧ At h0 h2 (refL d len skew (newX sc sr sb st sw sp j) ++ F)) (fun (x : Int) _ => (k - x).toNat)
    ⟨0, ⟨none, 0, 0⟩, ⟨none, 0, 0⟩, ⟨none, 0, 0⟩, ⟨none, 0, 0⟩, ⟨none, 0, 0⟩, ⟨none, 0, 0⟩, rfl, Nat.zero_le _, H⟩ fun _ (x : Int) h hI => ?_
  obtain ⟨j, sc, sr, sb, st, sw, sp, rfl, hj, H⟩ := hI
  refine brD (fun hc => ?_) fun hc => ?_
  · have hj2 : j < k := by omega
    generalize hX : newX sc sr sb st sw sp j = X at H
    have b1 : (X.C.length + 1) * 8 ≤ 140737488355328 := by rw [← hX]; show ((List.replicate j (0 : Int)).length + 1) * 8 ≤ _; rw [List.length_replicate]; omega
    have b2 : (X.R.length + 1) * 8 ≤ 140737488355328 := by rw [← hX]; show ((List.replicate j (0 : Int)).length + 1) * 8 ≤ _; rw [List.length_replicate]; omega
    have b3 : (X.B.length + 1) * 8 ≤ 140737488355328 := by rw [← hX]; show ((List.replicate j (0 : Int)).length + 1) * 8 ≤ _; rw [List.length_replicate]; omega
    have b4 : (X.T.length + 1) * 8 ≤ 140737488355328 := by rw [← hX]; show ((List.replicate j (0 : Int)).length + 1) * 8 ≤ _; rw [List.length_replicate]; omega
    have c1 : X.C.length + 1 ≤ 4611686018427387903 := by omega
    have c2 : X.R.length + 1 ≤ 4611686018427387903 := by omega
    have c3 : X.B.length + 1 ≤ 4611686018427387903 := by omega
    have c4 : X.T.length + 1 ≤ 4611686018427387903 := by omega
    refine join0 (fun g => ∃ s0 s1 s2 s3 : Sl, At h0 g (refL d len skew { X with sc := s0, sr := s1, sb := s2, st := s3, C := X.C ++ [0], R := X.R ++ [0], B := X.B ++ [0], T := X.T ++ [0] } ++ F)) (fun _ h hJ => by
      obtain ⟨t0, t1, t2, t3, H⟩ := hJ
      have fin : ∀ (s0 s1 : Sl) (h : Heap), At h0 h (refL d len skew { X with sc := t0, sr := t1, sb := t2, st := t3, C := X.C ++ [0], R := X.R ++ [0], B := X.B ++ [0], T := X.T ++ [0], sw := s0, sp := s1, W := X.W ++ [-1], P := X.P ++ [0] } ++ F) → Let (IntKind.i64.wrap ((j : Int) + 1) : Int) fun i1 => (∃ (j_1 : Nat) (sc sr sb st sw sp : Sl), i1 = j_1 ∧ j_1 ≤ k ∧ At h0 h (refL d len skew (newX sc sr sb st sw sp j_1) ++ F)) ∧ ((k : Int) - i1).toNat < ((k : Int) - (j : Int)).toNat := fun s0 s1 h H => by
        rw [w64 (by omega) (by omega)]
        refine let_ ⟨⟨j + 1, t0, t1, t2, t3, s0, s1, by omega, by omega, ?_⟩, by omega⟩
        subst hX
        unfold newX at H ⊢
        rw [List.replicate_succ', List.replicate_succ']
        exact H
      generalize hY : ({ X with sc := t0, sr := t1, sb := t2, st := t3, C := X.C ++ [0], R := X.R ++ [0], B := X.B ++ [0], T := X.T ++ [0] } : RL) = Y at H
      have fin : ∀ (s0 s1 : Sl) (h : Heap), At h0 h (refL d len skew { Y with sw := s0, sp := s1, W := Y.W ++ [-1], P := Y.P ++ [0] } ++ F) → Let (IntKind.i64.wrap ((j : Int) + 1) : Int) fun i1 => (∃ (j_1 : Nat) (sc sr sb st sw sp : Sl), i1 = j_1 ∧ j_1 ≤ k ∧ At h0 h (refL d len skew (newX sc sr sb st sw sp j_1) ++ F)) ∧ ((k : Int) - i1).toNat < ((k : Int) - (j : Int)).toNat := by
        subst hY
        exact fin
      have b5 : (Y.W.length + 1) * 8 ≤ 140737488355328 := by rw [← hY, ← hX]; show ((List.replicate j (-1 : Int)).length + 1) * 8 ≤ _; rw [List.length_replicate]; omega
      have b6 : (Y.P.length + 1) * 8 ≤ 140737488355328 := by rw [← hY, ← hX]; show ((List.replicate j (0 : Int)).length + 1) * 8 ≤ _; rw [List.length_replicate]; omega
      have c5 : Y.W.length + 1 ≤ 4611686018427387903 := by omega
      have c6 : Y.P.length + 1 ≤ 4611686018427387903 := by omega
      refine nn (ldAt H 0 rfl Y.sw rfl (nn (ldAt H 0 rfl Y.sp rfl ?_)))
      refine ⟨?_, ?_⟩
      · refine allocAt (cs := [.int .i64 (-1)]) H fun h b H => ?_
        refine ⟨ldAt H 1 rfl Y.sw rfl rfl, ldAt H 1 rfl Y.sp rfl rfl, ?_⟩
        refine ⟨?_, ?_⟩
        · refine app1B (E := eI) TI H 6 rfl 0 rfl (-1) rfl b5 c5 fun s0 h H => ?_
          refine ⟨ldAt H 1 rfl Y.sp rfl rfl, ?_⟩
          refine allocAt (cs := [.int .i64 (0)]) H fun h b H => ?_
          refine ⟨ldAt H 2 rfl Y.sw rfl rfl, ldAt H 2 rfl Y.sp rfl rfl, ?_⟩
          refine app1B (E := eI) TI H 8 rfl 0 rfl (0) rfl b6 c6 fun s1 h H => ?_
          exact leafB (H.drop 2) rfl fun h H => fin s0 s1 h H
        · refine allocAt (cs := [.int .i64 (0)]) H fun h b H => ?_
          refine ⟨ldAt H 2 rfl Y.sw rfl rfl, ldAt H 2 rfl Y.sp rfl rfl, ?_⟩
          refine app1B (E := eI) TI H 7 rfl 1 rfl (-1) rfl b5 c5 fun s0 h H => ?_
          refine ⟨ldAt H 2 rfl Y.sp rfl rfl, ?_⟩
          refine app1B (E := eI) TI H 8 rfl 0 rfl (0) rfl b6 c6 fun s1 h H => ?_
          exact leafB (H.drop 2) rfl fun h H => fin s0 s1 h H
      · refine allocAt (cs := [.int .i64 (0)]) H fun h b H => ?_
        refine ⟨ldAt H 1 rfl Y.sw rfl rfl, ldAt H 1 rfl Y.sp rfl rfl, ?_⟩
        refine allocAt (cs := [.int .i64 (-1)]) H fun h b H => ?_
        refine ⟨ldAt H 2 rfl Y.sw rfl rfl, ldAt H 2 rfl Y.sp rfl rfl, ?_⟩
        refine app1B (E := eI) TI H 7 rfl 0 rfl (-1) rfl b5 c5 fun s0 h H => ?_
        refine ⟨ldAt H 2 rfl Y.sp rfl rfl, ?_⟩
        refine app1B (E := eI) TI H 8 rfl 1 rfl (0) rfl b6 c6 fun s1 h H => ?_
        exact leafB (H.drop 2) rfl fun h H => fin s0 s1 h H) ?_
    refine nn (ldAt H 0 rfl X.sc rfl (nn (ldAt H 0 rfl X.sr rfl (nn (ldAt H 0 rfl X.sb rfl (nn (ldAt H 0 rfl X.st rfl ?_)))))))
    refine ⟨?_, ?_, ?_, ?_⟩
    · refine allocAt (cs := [.int .i64 (0)]) H fun h b H => ?_
      refine ⟨ldAt H 1 rfl X.sc rfl rfl, ldAt H 1 rfl X.sr rfl rfl, ldAt H 1 rfl X.sb rfl rfl, ldAt H 1 rfl X.st rfl rfl, ?_⟩
      refine ⟨?_, ?_, ?_, ?_⟩
      · refine app1B (E := eI) TI H 2 rfl 0 rfl (0) rfl b1 c1 fun s0 h H => ?_
        refine ⟨ldAt H 1 rfl X.sr rfl rfl, ldAt H 1 rfl X.sb rfl rfl, ldAt H 1 rfl X.st rfl rfl, ?_⟩
        refine ⟨?_, ?_, ?_⟩
        · refine allocAt (cs := [.int .i64 (0)]) H fun h b H => ?_
          refine ⟨ldAt H 2 rfl X.sc rfl rfl, ldAt H 2 rfl X.sr rfl rfl, ldAt H 2 rfl X.sb rfl rfl, ldAt H 2 rfl X.st rfl rfl, ?_⟩
          refine ⟨?_, ?_, ?_⟩
          · refine app1B (E := eI) TI H 4 rfl 0 rfl (0) rfl b2 c2 fun s1 h H => ?_
            refine ⟨ldAt H 2 rfl X.sb rfl rfl, ldAt H 2 rfl X.st rfl rfl, ?_⟩
            refine ⟨?_, ?_⟩
            · refine allocAt (cs := [.int .i64 (0)]) H fun h b H => ?_
              refine ⟨ldAt H 3 rfl X.sc rfl rfl, ldAt H 3 rfl X.sr rfl rfl, ldAt H 3 rfl X.sb rfl rfl, ldAt H 3 rfl X.st rfl rfl, ?_⟩
              refine ⟨?_, ?_⟩
              · refine app1B (E := eI) TI H 6 rfl 0 rfl (0) rfl b3 c3 fun s2 h H => ?_
                refine ⟨ldAt H 3 rfl X.st rfl rfl, ?_⟩
                refine allocAt (cs := [.int .i64 (0)]) H fun h b H => ?_
                refine ⟨ldAt H 4 rfl X.sc rfl rfl, ldAt H 4 rfl X.sr rfl rfl, ldAt H 4 rfl X.sb rfl rfl, ldAt H 4 rfl X.st rfl rfl, ?_⟩
                refine app1B (E := eI) TI H 8 rfl 0 rfl (0) rfl b4 c4 fun s3 h H => ?_
                exact leafA (H.drop 4) rfl fun h H => ⟨s0, s1, s2, s3, H⟩
              · refine allocAt (cs := [.int .i64 (0)]) H fun h b H => ?_
                refine ⟨ldAt H 4 rfl X.sc rfl rfl, ldAt H 4 rfl X.sr rfl rfl, ldAt H 4 rfl X.sb rfl rfl, ldAt H 4 rfl X.st rfl rfl, ?_⟩
                refine app1B (E := eI) TI H 7 rfl 1 rfl (0) rfl b3 c3 fun s2 h H => ?_
                refine ⟨ldAt H 4 rfl X.st rfl rfl, ?_⟩
                refine app1B (E := eI) TI H 8 rfl 0 rfl (0) rfl b4 c4 fun s3 h H => ?_
                exact leafA (H.drop 4) rfl fun h H => ⟨s0, s1, s2, s3, H⟩
            · refine allocAt (cs := [.int .i64 (0)]) H fun h b H => ?_
              refine ⟨ldAt H 3 rfl X.sc rfl rfl, ldAt H 3 rfl X.sr rfl rfl, ldAt H 3 rfl X.sb rfl rfl, ldAt H 3 rfl X.st rfl rfl, ?_⟩
              refine allocAt (cs := [.int .i64 (0)]) H fun h b H => ?_
              refine ⟨ldAt H 4 rfl X.sc rfl rfl, ldAt H 4 rfl X.sr rfl rfl, ldAt H 4 rfl X.sb rfl rfl, ldAt H 4 rfl X.st rfl rfl, ?_⟩
              refine app1B (E := eI) TI H 7 rfl 0 rfl (0) rfl b3 c3 fun s2 h H => ?_
              refine ⟨ldAt H 4 rfl X.st rfl rfl, ?_⟩
              refine app1B (E := eI) TI H 8 rfl 1 rfl (0) rfl b4 c4 fun s3 h H => ?_
              exact leafA (H.drop 4) rfl fun h H => ⟨s0, s1, s2, s3, H⟩
          · refine allocAt (cs := [.int .i64 (0)]) H fun h b H => ?_
            refine ⟨ldAt H 3 rfl X.sc rfl rfl, ldAt H 3 rfl X.sr rfl rfl, ldAt H 3 rfl X.sb rfl rfl, ldAt H 3 rfl X.st rfl rfl, ?_⟩
            refine ⟨?_, ?_⟩
            · refine app1B (E := eI) TI H 5 rfl 1 rfl (0) rfl b2 c2 fun s1 h H => ?_
              refine ⟨ldAt H 3 rfl X.sb rfl rfl, ldAt H 3 rfl X.st rfl rfl, ?_⟩
              refine ⟨?_, ?_⟩
              · refine app1B (E := eI) TI H 6 rfl 0 rfl (0) rfl b3 c3 fun s2 h H => ?_
                refine ⟨ldAt H 3 rfl X.st rfl rfl, ?_⟩
                refine allocAt (cs := [.int .i64 (0)]) H fun h b H => ?_
                refine ⟨ldAt H 4 rfl X.sc rfl rfl, ldAt H 4 rfl X.sr rfl rfl, ldAt H 4 rfl X.sb rfl rfl, ldAt H 4 rfl X.st rfl rfl, ?_⟩
                refine app1B (E := eI) TI H 8 rfl 0 rfl (0) rfl b4 c4 fun s3 h H => ?_
                exact leafA (H.drop 4) rfl fun h H => ⟨s0, s1, s2, s3, H⟩
              · refine allocAt (cs := [.int .i64 (0)]) H fun h b H => ?_
                refine ⟨ldAt H 4 rfl X.sc rfl rfl, ldAt H 4 rfl X.sr rfl rfl, ldAt H 4 rfl X.sb rfl rfl, ldAt H 4 rfl X.st rfl rfl, ?_⟩
                refine app1B (E := eI) TI H 7 rfl 1 rfl (0) rfl b3 c3 fun s2 h H => ?_
                refine ⟨ldAt H 4 rfl X.st rfl rfl, ?_⟩
                refine app1B (E := eI) TI H 8 rfl 0 rfl (0) rfl b4 c4 fun s3 h H => ?_
                exact leafA (H.drop 4) rfl fun h H => ⟨s0, s1, s2, s3, H⟩
            · refine allocAt (cs := [.int .i64 (0)]) H fun h b H => ?_
              refine ⟨ldAt H 4 rfl X.sc rfl rfl, ldAt H 4 rfl X.sr rfl rfl, ldAt H 4 rfl X.sb rfl rfl, ldAt H 4 rfl X.st rfl rfl, ?_⟩
              refine app1B (E := eI) TI H 6 rfl 2 rfl (0) rfl b2 c2 fun s1 h H => ?_
              refine ⟨ldAt H 4 rfl X.sb rfl rfl, ldAt H 4 rfl X.st rfl rfl, ?_⟩
              refine app1B (E := eI) TI H 7 rfl 1 rfl (0) rfl b3 c3 fun s2 h H => ?_
              refine ⟨ldAt H 4 rfl X.st rfl rfl, ?_⟩
              refine app1B (E := eI) TI H 8 rfl 0 rfl (0) rfl b4 c4 fun s3 h H => ?_
              exact leafA (H.drop 4) rfl fun h H => ⟨s0, s1, s2, s3, H⟩
          · refine allocAt (cs := [.int .i64 (0)]) H fun h b H => ?_
            refine ⟨ldAt H 3 rfl X.sc rfl rfl, ldAt H 3 rfl X.sr rfl rfl, ldAt H 3 rfl X.sb rfl rfl, ldAt H 3 rfl X.st rfl rfl, ?_⟩
            refine ⟨?_, ?_⟩
            · refine app1B (E := eI) TI H 5 rfl 1 rfl (0) rfl b2 c2 fun s1 h H => ?_
              refine ⟨ldAt H 3 rfl X.sb rfl rfl, ldAt H 3 rfl X.st rfl rfl, ?_⟩
              refine allocAt (cs := [.int .i64 (0)]) H fun h b H => ?_
              refine ⟨ldAt H 4 rfl X.sc rfl rfl, ldAt H 4 rfl X.sr rfl rfl, ldAt H 4 rfl X.sb rfl rfl, ldAt H 4 rfl X.st rfl rfl, ?_⟩
              refine app1B (E := eI) TI H 7 rfl 0 rfl (0) rfl b3 c3 fun s2 h H => ?_
              refine ⟨ldAt H 4 rfl X.st rfl rfl, ?_⟩
              refine app1B (E := eI) TI H 8 rfl 1 rfl (0) rfl b4 c4 fun s3 h H => ?_
              exact leafA (H.drop 4) rfl fun h H => ⟨s0, s1, s2, s3, H⟩
            · refine allocAt (cs := [.int .i64 (0)]) H fun h b H => ?_
              refine ⟨ldAt H 4 rfl X.sc rfl rfl, ldAt H 4 rfl X.sr rfl rfl, ldAt H 4 rfl X.sb rfl rfl, ldAt H 4 rfl X.st rfl rfl, ?_⟩
              refine app1B (E := eI) TI H 6 rfl 2 rfl (0) rfl b2 c2 fun s1 h H => ?_
              refine ⟨ldAt H 4 rfl X.sb rfl rfl, ldAt H 4 rfl X.st rfl rfl, ?_⟩
              refine app1B (E := eI) TI H 7 rfl 0 rfl (0) rfl b3 c3 fun s2 h H => ?_
              refine ⟨ldAt H 4 rfl X.st rfl rfl, ?_⟩
              refine app1B (E := eI) TI H 8 rfl 1 rfl (0) rfl b4 c4 fun s3 h H => ?_
              exact leafA (H.drop 4) rfl fun h H => ⟨s0, s1, s2, s3, H⟩
        · refine allocAt (cs := [.int .i64 (0)]) H fun h b H => ?_
          refine ⟨ldAt H 2 rfl X.sc rfl rfl, ldAt H 2 rfl X.sr rfl rfl, ldAt H 2 rfl X.sb rfl rfl, ldAt H 2 rfl X.st rfl rfl, ?_⟩
          refine ⟨?_, ?_⟩
          · refine allocAt (cs := [.int .i64 (0)]) H fun h b H => ?_
            refine ⟨ldAt H 3 rfl X.sc rfl rfl, ldAt H 3 rfl X.sr rfl rfl, ldAt H 3 rfl X.sb rfl rfl, ldAt H 3 rfl X.st rfl rfl, ?_⟩
            refine ⟨?_, ?_⟩
            · refine app1B (E := eI) TI H 5 rfl 0 rfl (0) rfl b2 c2 fun s1 h H => ?_
              refine ⟨ldAt H 3 rfl X.sb rfl rfl, ldAt H 3 rfl X.st rfl rfl, ?_⟩
              refine ⟨?_, ?_⟩
              · refine app1B (E := eI) TI H 6 rfl 1 rfl (0) rfl b3 c3 fun s2 h H => ?_
                refine ⟨ldAt H 3 rfl X.st rfl rfl, ?_⟩
                refine allocAt (cs := [.int .i64 (0)]) H fun h b H => ?_
                refine ⟨ldAt H 4 rfl X.sc rfl rfl, ldAt H 4 rfl X.sr rfl rfl, ldAt H 4 rfl X.sb rfl rfl, ldAt H 4 rfl X.st rfl rfl, ?_⟩
                refine app1B (E := eI) TI H 8 rfl 0 rfl (0) rfl b4 c4 fun s3 h H => ?_
                exact leafA (H.drop 4) rfl fun h H => ⟨s0, s1, s2, s3, H⟩
              · refine allocAt (cs := [.int .i64 (0)]) H fun h b H => ?_
                refine ⟨ldAt H 4 rfl X.sc rfl rfl, ldAt H 4 rfl X.sr rfl rfl, ldAt H 4 rfl X.sb rfl rfl, ldAt H 4 rfl X.st rfl rfl, ?_⟩
                refine app1B (E := eI) TI H 7 rfl 2 rfl (0) rfl b3 c3 fun s2 h H => ?_
                refine ⟨ldAt H 4 rfl X.st rfl rfl, ?_⟩
                refine app1B (E := eI) TI H 8 rfl 0 rfl (0) rfl b4 c4 fun s3 h H => ?_
                exact leafA (H.drop 4) rfl fun h H => ⟨s0, s1, s2, s3, H⟩
            · refine allocAt (cs := [.int .i64 (0)]) H fun h b H => ?_
              refine ⟨ldAt H 4 rfl X.sc rfl rfl, ldAt H 4 rfl X.sr rfl rfl, ldAt H 4 rfl X.sb rfl rfl, ldAt H 4 rfl X.st rfl rfl, ?_⟩
              refine app1B (E := eI) TI H 6 rfl 1 rfl (0) rfl b2 c2 fun s1 h H => ?_
              refine ⟨ldAt H 4 rfl X.sb rfl rfl, ldAt H 4 rfl X.st rfl rfl, ?_⟩
              refine app1B (E := eI) TI H 7 rfl 2 rfl (0) rfl b3 c3 fun s2 h H => ?_
              refine ⟨ldAt H 4 rfl X.st rfl rfl, ?_⟩
              refine app1B (E := eI) TI H 8 rfl 0 rfl (0) rfl b4 c4 fun s3 h H => ?_
              exact leafA (H.drop 4) rfl fun h H => ⟨s0, s1, s2, s3, H⟩
          · refine allocAt (cs := [.int .i64 (0)]) H fun h b H => ?_
            refine ⟨ldAt H 3 rfl X.sc rfl rfl, ldAt H 3 rfl X.sr rfl rfl, ldAt H 3 rfl X.sb rfl rfl, ldAt H 3 rfl X.st rfl rfl, ?_⟩
            refine allocAt (cs := [.int .i64 (0)]) H fun h b H => ?_
            refine ⟨ldAt H 4 rfl X.sc rfl rfl, ldAt H 4 rfl X.sr rfl rfl, ldAt H 4 rfl X.sb rfl rfl, ldAt H 4 rfl X.st rfl rfl, ?_⟩
            refine app1B (E := eI) TI H 6 rfl 0 rfl (0) rfl b2 c2 fun s1 h H => ?_
            refine ⟨ldAt H 4 rfl X.sb rfl rfl, ldAt H 4 rfl X.st rfl rfl, ?_⟩
            refine app1B (E := eI) TI H 7 rfl 2 rfl (0) rfl b3 c3 fun s2 h H => ?_
            refine ⟨ldAt H 4 rfl X.st rfl rfl, ?_⟩
            refine app1B (E := eI) TI H 8 rfl 1 rfl (0) rfl b4 c4 fun s3 h H => ?_
            exact leafA (H.drop 4) rfl fun h H => ⟨s0, s1, s2, s3, H⟩
        · refine allocAt (cs := [.int .i64 (0)]) H fun h b H => ?_
          refine ⟨ldAt H 2 rfl X.sc rfl rfl, ldAt H 2 rfl X.sr rfl rfl, ldAt H 2 rfl X.sb rfl rfl, ldAt H 2 rfl X.st rfl rfl, ?_⟩
          refine ⟨?_, ?_⟩
          · refine allocAt (cs := [.int .i64 (0)]) H fun h b H => ?_
            refine ⟨ldAt H 3 rfl X.sc rfl rfl, ldAt H 3 rfl X.sr rfl rfl, ldAt H 3 rfl X.sb rfl rfl, ldAt H 3 rfl X.st rfl rfl, ?_⟩
            refine ⟨?_, ?_⟩
            · refine app1B (E := eI) TI H 5 rfl 0 rfl (0) rfl b2 c2 fun s1 h H => ?_
              refine ⟨ldAt H 3 rfl X.sb rfl rfl, ldAt H 3 rfl X.st rfl rfl, ?_⟩
              refine allocAt (cs := [.int .i64 (0)]) H fun h b H => ?_
              refine ⟨ldAt H 4 rfl X.sc rfl rfl, ldAt H 4 rfl X.sr rfl rfl, ldAt H 4 rfl X.sb rfl rfl, ldAt H 4 rfl X.st rfl rfl, ?_⟩
              refine app1B (E := eI) TI H 7 rfl 0 rfl (0) rfl b3 c3 fun s2 h H => ?_
              refine ⟨ldAt H 4 rfl X.st rfl rfl, ?_⟩
              refine app1B (E := eI) TI H 8 rfl 2 rfl (0) rfl b4 c4 fun s3 h H => ?_
              exact leafA (H.drop 4) rfl fun h H => ⟨s0, s1, s2, s3, H⟩
            · refine allocAt (cs := [.int .i64 (0)]) H fun h b H => ?_
              refine ⟨ldAt H 4 rfl X.sc rfl rfl, ldAt H 4 rfl X.sr rfl rfl, ldAt H 4 rfl X.sb rfl rfl, ldAt H 4 rfl X.st rfl rfl, ?_⟩
              refine app1B (E := eI) TI H 6 rfl 1 rfl (0) rfl b2 c2 fun s1 h H => ?_
              refine ⟨ldAt H 4 rfl X.sb rfl rfl, ldAt H 4 rfl X.st rfl rfl, ?_⟩
              refine app1B (E := eI) TI H 7 rfl 0 rfl (0) rfl b3 c3 fun s2 h H => ?_
              refine ⟨ldAt H 4 rfl X.st rfl rfl, ?_⟩
              refine app1B (E := eI) TI H 8 rfl 2 rfl (0) rfl b4 c4 fun s3 h H => ?_
              exact leafA (H.drop 4) rfl fun h H => ⟨s0, s1, s2, s3, H⟩
          · refine allocAt (cs := [.int .i64 (0)]) H fun h b H => ?_
            refine ⟨ldAt H 3 rfl X.sc rfl rfl, ldAt H 3 rfl X.sr rfl rfl, ldAt H 3 rfl X.sb rfl rfl, ldAt H 3 rfl X.st rfl rfl, ?_⟩
            refine allocAt (cs := [.int .i64 (0)]) H fun h b H => ?_
            refine ⟨ldAt H 4 rfl X.sc rfl rfl, ldAt H 4 rfl X.sr rfl rfl, ldAt H 4 rfl X.sb rfl rfl, ldAt H 4 rfl X.st rfl rfl, ?_⟩
            refine app1B (E := eI) TI H 6 rfl 0 rfl (0) rfl b2 c2 fun s1 h H => ?_
            refine ⟨ldAt H 4 rfl X.sb rfl rfl, ldAt H 4 rfl X.st rfl rfl, ?_⟩
            refine app1B (E := eI) TI H 7 rfl 1 rfl (0) rfl b3 c3 fun s2 h H => ?_
            refine ⟨ldAt H 4 rfl X.st rfl rfl, ?_⟩
            refine app1B (E := eI) TI H 8 rfl 2 rfl (0) rfl b4 c4 fun s3 h H => ?_
            exact leafA (H.drop 4) rfl fun h H => ⟨s0, s1, s2, s3, H⟩
      · refine allocAt (cs := [.int .i64 (0)]) H fun h b H => ?_
        refine ⟨ldAt H 2 rfl X.sc rfl rfl, ldAt H 2 rfl X.sr rfl rfl, ldAt H 2 rfl X.sb rfl rfl, ldAt H 2 rfl X.st rfl rfl, ?_⟩
        refine ⟨?_, ?_, ?_⟩
        · refine app1B (E := eI) TI H 3 rfl 1 rfl (0) rfl b1 c1 fun s0 h H => ?_
          refine ⟨ldAt H 2 rfl X.sr rfl rfl, ldAt H 2 rfl X.sb rfl rfl, ldAt H 2 rfl X.st rfl rfl, ?_⟩
          refine ⟨?_, ?_, ?_⟩
          · refine app1B (E := eI) TI H 4 rfl 0 rfl (0) rfl b2 c2 fun s1 h H => ?_
            refine ⟨ldAt H 2 rfl X.sb rfl rfl, ldAt H 2 rfl X.st rfl rfl, ?_⟩
            refine ⟨?_, ?_⟩
            · refine allocAt (cs := [.int .i64 (0)]) H fun h b H => ?_
              refine ⟨ldAt H 3 rfl X.sc rfl rfl, ldAt H 3 rfl X.sr rfl rfl, ldAt H 3 rfl X.sb rfl rfl, ldAt H 3 rfl X.st rfl rfl, ?_⟩
              refine ⟨?_, ?_⟩
              · refine app1B (E := eI) TI H 6 rfl 0 rfl (0) rfl b3 c3 fun s2 h H => ?_
                refine ⟨ldAt H 3 rfl X.st rfl rfl, ?_⟩
                refine allocAt (cs := [.int .i64 (0)]) H fun h b H => ?_
                refine ⟨ldAt H 4 rfl X.sc rfl rfl, ldAt H 4 rfl X.sr rfl rfl, ldAt H 4 rfl X.sb rfl rfl, ldAt H 4 rfl X.st rfl rfl, ?_⟩
                refine app1B (E := eI) TI H 8 rfl 0 rfl (0) rfl b4 c4 fun s3 h H => ?_
                exact leafA (H.drop 4) rfl fun h H => ⟨s0, s1, s2, s3, H⟩
              · refine allocAt (cs := [.int .i64 (0)]) H fun h b H => ?_
                refine ⟨ldAt H 4 rfl X.sc rfl rfl, ldAt H 4 rfl X.sr rfl rfl, ldAt H 4 rfl X.sb rfl rfl, ldAt H 4 rfl X.st rfl rfl, ?_⟩
                refine app1B (E := eI) TI H 7 rfl 1 rfl (0) rfl b3 c3 fun s2 h H => ?_
                refine ⟨ldAt H 4 rfl X.st rfl rfl, ?_⟩
                refine app1B (E := eI) TI H 8 rfl 0 rfl (0) rfl b4 c4 fun s3 h H => ?_
                exact leafA (H.drop 4) rfl fun h H => ⟨s0, s1, s2, s3, H⟩
            · refine allocAt (cs := [.int .i64 (0)]) H fun h b H => ?_
              refine ⟨ldAt H 3 rfl X.sc rfl rfl, ldAt H 3 rfl X.sr rfl rfl, ldAt H 3 rfl X.sb rfl rfl, ldAt H 3 rfl X.st rfl rfl, ?_⟩
              refine allocAt (cs := [.int .i64 (0)]) H fun h b H => ?_
              refine ⟨ldAt H 4 rfl X.sc rfl rfl, ldAt H 4 rfl X.sr rfl rfl, ldAt H 4 rfl X.sb rfl rfl, ldAt H 4 rfl X.st rfl rfl, ?_⟩
              refine app1B (E := eI) TI H 7 rfl 0 rfl (0) rfl b3 c3 fun s2 h H => ?_
              refine ⟨ldAt H 4 rfl X.st rfl rfl, ?_⟩
              refine app1B (E := eI) TI H 8 rfl 1 rfl (0) rfl b4 c4 fun s3 h H => ?_
              exact leafA (H.drop 4) rfl fun h H => ⟨s0, s1, s2, s3, H⟩
          · refine allocAt (cs := [.int .i64 (0)]) H fun h b H => ?_
            refine ⟨ldAt H 3 rfl X.sc rfl rfl, ldAt H 3 rfl X.sr rfl rfl, ldAt H 3 rfl X.sb rfl rfl, ldAt H 3 rfl X.st rfl rfl, ?_⟩
            refine ⟨?_, ?_⟩
            · refine app1B (E := eI) TI H 5 rfl 1 rfl (0) rfl b2 c2 fun s1 h H => ?_
              refine ⟨ldAt H 3 rfl X.sb rfl rfl, ldAt H 3 rfl X.st rfl rfl, ?_⟩
              refine ⟨?_, ?_⟩
              · refine app1B (E := eI) TI H 6 rfl 0 rfl (0) rfl b3 c3 fun s2 h H => ?_
                refine ⟨ldAt H 3 rfl X.st rfl rfl, ?_⟩
                refine allocAt (cs := [.int .i64 (0)]) H fun h b H => ?_
                refine ⟨ldAt H 4 rfl X.sc rfl rfl, ldAt H 4 rfl X.sr rfl rfl, ldAt H 4 rfl X.sb rfl rfl, ldAt H 4 rfl X.st rfl rfl, ?_⟩
                refine app1B (E := eI) TI H 8 rfl 0 rfl (0) rfl b4 c4 fun s3 h H => ?_
                exact leafA (H.drop 4) rfl fun h H => ⟨s0, s1, s2, s3, H⟩
              · refine allocAt (cs := [.int .i64 (0)]) H fun h b H => ?_
                refine ⟨ldAt H 4 rfl X.sc rfl rfl, ldAt H 4 rfl X.sr rfl rfl, ldAt H 4 rfl X.sb rfl rfl, ldAt H 4 rfl X.st rfl rfl, ?_⟩
                refine app1B (E := eI) TI H 7 rfl 1 rfl (0) rfl b3 c3 fun s2 h H => ?_
                refine ⟨ldAt H 4 rfl X.st rfl rfl, ?_⟩
                refine app1B (E := eI) TI H 8 rfl 0 rfl (0) rfl b4 c4 fun s3 h H => ?_
                exact leafA (H.drop 4) rfl fun h H => ⟨s0, s1, s2, s3, H⟩
            · refine allocAt (cs := [.int .i64 (0)]) H fun h b H => ?_
              refine ⟨ldAt H 4 rfl X.sc rfl rfl, ldAt H 4 rfl X.sr rfl rfl, ldAt H 4 rfl X.sb rfl rfl, ldAt H 4 rfl X.st rfl rfl, ?_⟩
              refine app1B (E := eI) TI H 6 rfl 2 rfl (0) rfl b2 c2 fun s1 h H => ?_
              refine ⟨ldAt H 4 rfl X.sb rfl rfl, ldAt H 4 rfl X.st rfl rfl, ?_⟩
              refine app1B (E := eI) TI H 7 rfl 1 rfl (0) rfl b3 c3 fun s2 h H => ?_
              refine ⟨ldAt H 4 rfl X.st rfl rfl, ?_⟩
              refine app1B (E := eI) TI H 8 rfl 0 rfl (0) rfl b4 c4 fun s3 h H => ?_
              exact leafA (H.drop 4) rfl fun h H => ⟨s0, s1, s2, s3, H⟩
          · refine allocAt (cs := [.int .i64 (0)]) H fun h b H => ?_
            refine ⟨ldAt H 3 rfl X.sc rfl rfl, ldAt H 3 rfl X.sr rfl rfl, ldAt H 3 rfl X.sb rfl rfl, ldAt H 3 rfl X.st rfl rfl, ?_⟩
            refine ⟨?_, ?_⟩
            · refine app1B (E := eI) TI H 5 rfl 1 rfl (0) rfl b2 c2 fun s1 h H => ?_
              refine ⟨ldAt H 3 rfl X.sb rfl rfl, ldAt H 3 rfl X.st rfl rfl, ?_⟩
              refine allocAt (cs := [.int .i64 (0)]) H fun h b H => ?_
              refine ⟨ldAt H 4 rfl X.sc rfl rfl, ldAt H 4 rfl X.sr rfl rfl, ldAt H 4 rfl X.sb rfl rfl, ldAt H 4 rfl X.st rfl rfl, ?_⟩
              refine app1B (E := eI) TI H 7 rfl 0 rfl (0) rfl b3 c3 fun s2 h H => ?_
              refine ⟨ldAt H 4 rfl X.st rfl rfl, ?_⟩
              refine app1B (E := eI) TI H 8 rfl 1 rfl (0) rfl b4 c4 fun s3 h H => ?_
              exact leafA (H.drop 4) rfl fun h H => ⟨s0, s1, s2, s3, H⟩
            · refine allocAt (cs := [.int .i64 (0)]) H fun h b H => ?_
              refine ⟨ldAt H 4 rfl X.sc rfl rfl, ldAt H 4 rfl X.sr rfl rfl, ldAt H 4 rfl X.sb rfl rfl, ldAt H 4 rfl X.st rfl rfl, ?_⟩
              refine app1B (E := eI) TI H 6 rfl 2 rfl (0) rfl b2 c2 fun s1 h H => ?_
              refine ⟨ldAt H 4 rfl X.sb rfl rfl, ldAt H 4 rfl X.st rfl rfl, ?_⟩
              refine app1B (E := eI) TI H 7 rfl 0 rfl (0) rfl b3 c3 fun s2 h H => ?_
              refine ⟨ldAt H 4 rfl X.st rfl rfl, ?_⟩
              refine app1B (E := eI) TI H 8 rfl 1 rfl (0) rfl b4 c4 fun s3 h H => ?_
              exact leafA (H.drop 4) rfl fun h H => ⟨s0, s1, s2, s3, H⟩
        · refine allocAt (cs := [.int .i64 (0)]) H fun h b H => ?_
          refine ⟨ldAt H 3 rfl X.sc rfl rfl, ldAt H 3 rfl X.sr rfl rfl, ldAt H 3 rfl X.sb rfl rfl, ldAt H 3 rfl X.st rfl rfl, ?_⟩
          refine ⟨?_, ?_⟩
          · refine app1B (E := eI) TI H 4 rfl 2 rfl (0) rfl b1 c1 fun s0 h H => ?_
            refine ⟨ldAt H 3 rfl X.sr rfl rfl, ldAt H 3 rfl X.sb rfl rfl, ldAt H 3 rfl X.st rfl rfl, ?_⟩
            refine ⟨?_, ?_⟩
            · refine app1B (E := eI) TI H 5 rfl 1 rfl (0) rfl b2 c2 fun s1 h H => ?_
              refine ⟨ldAt H 3 rfl X.sb rfl rfl, ldAt H 3 rfl X.st rfl rfl, ?_⟩
              refine ⟨?_, ?_⟩
              · refine app1B (E := eI) TI H 6 rfl 0 rfl (0) rfl b3 c3 fun s2 h H => ?_
                refine ⟨ldAt H 3 rfl X.st rfl rfl, ?_⟩
                refine allocAt (cs := [.int .i64 (0)]) H fun h b H => ?_
                refine ⟨ldAt H 4 rfl X.sc rfl rfl, ldAt H 4 rfl X.sr rfl rfl, ldAt H 4 rfl X.sb rfl rfl, ldAt H 4 rfl X.st rfl rfl, ?_⟩
                refine app1B (E := eI) TI H 8 rfl 0 rfl (0) rfl b4 c4 fun s3 h H => ?_
                exact leafA (H.drop 4) rfl fun h H => ⟨s0, s1, s2, s3, H⟩
              · refine allocAt (cs := [.int .i64 (0)]) H fun h b H => ?_
                refine ⟨ldAt H 4 rfl X.sc rfl rfl, ldAt H 4 rfl X.sr rfl rfl, ldAt H 4 rfl X.sb rfl rfl, ldAt H 4 rfl X.st rfl rfl, ?_⟩
                refine app1B (E := eI) TI H 7 rfl 1 rfl (0) rfl b3 c3 fun s2 h H => ?_
                refine ⟨ldAt H 4 rfl X.st rfl rfl, ?_⟩
                refine app1B (E := eI) TI H 8 rfl 0 rfl (0) rfl b4 c4 fun s3 h H => ?_
                exact leafA (H.drop 4) rfl fun h H => ⟨s0, s1, s2, s3, H⟩
            · refine allocAt (cs := [.int .i64 (0)]) H fun h b H => ?_
              refine ⟨ldAt H 4 rfl X.sc rfl rfl, ldAt H 4 rfl X.sr rfl rfl, ldAt H 4 rfl X.sb rfl rfl, ldAt H 4 rfl X.st rfl rfl, ?_⟩
              refine app1B (E := eI) TI H 6 rfl 2 rfl (0) rfl b2 c2 fun s1 h H => ?_
              refine ⟨ldAt H 4 rfl X.sb rfl rfl, ldAt H 4 rfl X.st rfl rfl, ?_⟩
              refine app1B (E := eI) TI H 7 rfl 1 rfl (0) rfl b3 c3 fun s2 h H => ?_
              refine ⟨ldAt H 4 rfl X.st rfl rfl, ?_⟩
              refine app1B (E := eI) TI H 8 rfl 0 rfl (0) rfl b4 c4 fun s3 h H => ?_
              exact leafA (H.drop 4) rfl fun h H => ⟨s0, s1, s2, s3, H⟩
          · refine allocAt (cs := [.int .i64 (0)]) H fun h b H => ?_
            refine ⟨ldAt H 4 rfl X.sc rfl rfl, ldAt H 4 rfl X.sr rfl rfl, ldAt H 4 rfl X.sb rfl rfl, ldAt H 4 rfl X.st rfl rfl, ?_⟩
            refine app1B (E := eI) TI H 5 rfl 3 rfl (0) rfl b1 c1 fun s0 h H => ?_
            refine ⟨ldAt H 4 rfl X.sr rfl rfl, ldAt H 4 rfl X.sb rfl rfl, ldAt H 4 rfl X.st rfl rfl, ?_⟩
            refine app1B (E := eI) TI H 6 rfl 2 rfl (0) rfl b2 c2 fun s1 h H => ?_
            refine ⟨ldAt H 4 rfl X.sb rfl rfl, ldAt H 4 rfl X.st rfl rfl, ?_⟩
            refine app1B (E := eI) TI H 7 rfl 1 rfl (0) rfl b3 c3 fun s2 h H => ?_
            refine ⟨ldAt H 4 rfl X.st rfl rfl, ?_⟩
            refine app1B (E := eI) TI H 8 rfl 0 rfl (0) rfl b4 c4 fun s3 h H => ?_
            exact leafA (H.drop 4) rfl fun h H => ⟨s0, s1, s2, s3, H⟩
        · refine allocAt (cs := [.int .i64 (0)]) H fun h b H => ?_
          refine ⟨ldAt H 3 rfl X.sc rfl rfl, ldAt H 3 rfl X.sr rfl rfl, ldAt H 3 rfl X.sb rfl rfl, ldAt H 3 rfl X.st rfl rfl, ?_⟩
          refine ⟨?_, ?_⟩
          · refine app1B (E := eI) TI H 4 rfl 2 rfl (0) rfl b1 c1 fun s0 h H => ?_
            refine ⟨ldAt H 3 rfl X.sr rfl rfl, ldAt H 3 rfl X.sb rfl rfl, ldAt H 3 rfl X.st rfl rfl, ?_⟩
            refine ⟨?_, ?_⟩
            · refine app1B (E := eI) TI H 5 rfl 1 rfl (0) rfl b2 c2 fun s1 h H => ?_
              refine ⟨ldAt H 3 rfl X.sb rfl rfl, ldAt H 3 rfl X.st rfl rfl, ?_⟩
              refine allocAt (cs := [.int .i64 (0)]) H fun h b H => ?_
              refine ⟨ldAt H 4 rfl X.sc rfl rfl, ldAt H 4 rfl X.sr rfl rfl, ldAt H 4 rfl X.sb rfl rfl, ldAt H 4 rfl X.st rfl rfl, ?_⟩
              refine app1B (E := eI) TI H 7 rfl 0 rfl (0) rfl b3 c3 fun s2 h H => ?_
              refine ⟨ldAt H 4 rfl X.st rfl rfl, ?_⟩
              refine app1B (E := eI) TI H 8 rfl 1 rfl (0) rfl b4 c4 fun s3 h H => ?_
              exact leafA (H.drop 4) rfl fun h H => ⟨s0, s1, s2, s3, H⟩
            · refine allocAt (cs := [.int .i64 (0)]) H fun h b H => ?_
              refine ⟨ldAt H 4 rfl X.sc rfl rfl, ldAt H 4 rfl X.sr rfl rfl, ldAt H 4 rfl X.sb rfl rfl, ldAt H 4 rfl X.st rfl rfl, ?_⟩
              refine app1B (E := eI) TI H 6 rfl 2 rfl (0) rfl b2 c2 fun s1 h H => ?_
              refine ⟨ldAt H 4 rfl X.sb rfl rfl, ldAt H 4 rfl X.st rfl rfl, ?_⟩
              refine app1B (E := eI) TI H 7 rfl 0 rfl (0) rfl b3 c3 fun s2 h H => ?_
              refine ⟨ldAt H 4 rfl X.st rfl rfl, ?_⟩
              refine app1B (E := eI) TI H 8 rfl 1 rfl (0) rfl b4 c4 fun s3 h H => ?_
              exact leafA (H.drop 4) rfl fun h H => ⟨s0, s1, s2, s3, H⟩
          · refine allocAt (cs := [.int .i64 (0)]) H fun h b H => ?_
            refine ⟨ldAt H 4 rfl X.sc rfl rfl, ldAt H 4 rfl X.sr rfl rfl, ldAt H 4 rfl X.sb rfl rfl, ldAt H 4 rfl X.st rfl rfl, ?_⟩
            refine app1B (E := eI) TI H 5 rfl 3 rfl (0) rfl b1 c1 fun s0 h H => ?_
            refine ⟨ldAt H 4 rfl X.sr rfl rfl, ldAt H 4 rfl X.sb rfl rfl, ldAt H 4 rfl X.st rfl rfl, ?_⟩
            refine app1B (E := eI) TI H 6 rfl 2 rfl (0) rfl b2 c2 fun s1 h H => ?_
            refine ⟨ldAt H 4 rfl X.sb rfl rfl, ldAt H 4 rfl X.st rfl rfl, ?_⟩
            refine app1B (E := eI) TI H 7 rfl 0 rfl (0) rfl b3 c3 fun s2 h H => ?_
            refine ⟨ldAt H 4 rfl X.st rfl rfl, ?_⟩
            refine app1B (E := eI) TI H 8 rfl 1 rfl (0) rfl b4 c4 fun s3 h H => ?_
            exact leafA (H.drop 4) rfl fun h H => ⟨s0, s1, s2, s3, H⟩
      · refine allocAt (cs := [.int .i64 (0)]) H fun h b H => ?_
        refine ⟨ldAt H 2 rfl X.sc rfl rfl, ldAt H 2 rfl X.sr rfl rfl, ldAt H 2 rfl X.sb rfl rfl, ldAt H 2 rfl X.st rfl rfl, ?_⟩
        refine ⟨?_, ?_, ?_⟩
        · refine app1B (E := eI) TI H 3 rfl 1 rfl (0) rfl b1 c1 fun s0 h H => ?_
          refine ⟨ldAt H 2 rfl X.sr rfl rfl, ldAt H 2 rfl X.sb rfl rfl, ldAt H 2 rfl X.st rfl rfl, ?_⟩
          refine ⟨?_, ?_⟩
          · refine allocAt (cs := [.int .i64 (0)]) H fun h b H => ?_
            refine ⟨ldAt H 3 rfl X.sc rfl rfl, ldAt H 3 rfl X.sr rfl rfl, ldAt H 3 rfl X.sb rfl rfl, ldAt H 3 rfl X.st rfl rfl, ?_⟩
            refine ⟨?_, ?_⟩
            · refine app1B (E := eI) TI H 5 rfl 0 rfl (0) rfl b2 c2 fun s1 h H => ?_
              refine ⟨ldAt H 3 rfl X.sb rfl rfl, ldAt H 3 rfl X.st rfl rfl, ?_⟩
              refine ⟨?_, ?_⟩
              · refine app1B (E := eI) TI H 6 rfl 1 rfl (0) rfl b3 c3 fun s2 h H => ?_
                refine ⟨ldAt H 3 rfl X.st rfl rfl, ?_⟩
                refine allocAt (cs := [.int .i64 (0)]) H fun h b H => ?_
                refine ⟨ldAt H 4 rfl X.sc rfl rfl, ldAt H 4 rfl X.sr rfl rfl, ldAt H 4 rfl X.sb rfl rfl, ldAt H 4 rfl X.st rfl rfl, ?_⟩
                refine app1B (E := eI) TI H 8 rfl 0 rfl (0) rfl b4 c4 fun s3 h H => ?_
                exact leafA (H.drop 4) rfl fun h H => ⟨s0, s1, s2, s3, H⟩
              · refine allocAt (cs := [.int .i64 (0)]) H fun h b H => ?_
                refine ⟨ldAt H 4 rfl X.sc rfl rfl, ldAt H 4 rfl X.sr rfl rfl, ldAt H 4 rfl X.sb rfl rfl, ldAt H 4 rfl X.st rfl rfl, ?_⟩
                refine app1B (E := eI) TI H 7 rfl 2 rfl (0) rfl b3 c3 fun s2 h H => ?_
                refine ⟨ldAt H 4 rfl X.st rfl rfl, ?_⟩
                refine app1B (E := eI) TI H 8 rfl 0 rfl (0) rfl b4 c4 fun s3 h H => ?_
                exact leafA (H.drop 4) rfl fun h H => ⟨s0, s1, s2, s3, H⟩
            · refine allocAt (cs := [.int .i64 (0)]) H fun h b H => ?_
              refine ⟨ldAt H 4 rfl X.sc rfl rfl, ldAt H 4 rfl X.sr rfl rfl, ldAt H 4 rfl X.sb rfl rfl, ldAt H 4 rfl X.st rfl rfl, ?_⟩
              refine app1B (E := eI) TI H 6 rfl 1 rfl (0) rfl b2 c2 fun s1 h H => ?_
              refine ⟨ldAt H 4 rfl X.sb rfl rfl, ldAt H 4 rfl X.st rfl rfl, ?_⟩
              refine app1B (E := eI) TI H 7 rfl 2 rfl (0) rfl b3 c3 fun s2 h H => ?_
              refine ⟨ldAt H 4 rfl X.st rfl rfl, ?_⟩
              refine app1B (E := eI) TI H 8 rfl 0 rfl (0) rfl b4 c4 fun s3 h H => ?_
              exact leafA (H.drop 4) rfl fun h H => ⟨s0, s1, s2, s3, H⟩
          · refine allocAt (cs := [.int .i64 (0)]) H fun h b H => ?_
            refine ⟨ldAt H 3 rfl X.sc rfl rfl, ldAt H 3 rfl X.sr rfl rfl, ldAt H 3 rfl X.sb rfl rfl, ldAt H 3 rfl X.st rfl rfl, ?_⟩
            refine allocAt (cs := [.int .i64 (0)]) H fun h b H => ?_
            refine ⟨ldAt H 4 rfl X.sc rfl rfl, ldAt H 4 rfl X.sr rfl rfl, ldAt H 4 rfl X.sb rfl rfl, ldAt H 4 rfl X.st rfl rfl, ?_⟩
            refine app1B (E := eI) TI H 6 rfl 0 rfl (0) rfl b2 c2 fun s1 h H => ?_
            refine ⟨ldAt H 4 rfl X.sb rfl rfl, ldAt H 4 rfl X.st rfl rfl, ?_⟩
            refine app1B (E := eI) TI H 7 rfl 2 rfl (0) rfl b3 c3 fun s2 h H => ?_
            refine ⟨ldAt H 4 rfl X.st rfl rfl, ?_⟩
            refine app1B (E := eI) TI H 8 rfl 1 rfl (0) rfl b4 c4 fun s3 h H => ?_
            exact leafA (H.drop 4) rfl fun h H => ⟨s0, s1, s2, s3, H⟩
        · refine allocAt (cs := [.int .i64 (0)]) H fun h b H => ?_
          refine ⟨ldAt H 3 rfl X.sc rfl rfl, ldAt H 3 rfl X.sr rfl rfl, ldAt H 3 rfl X.sb rfl rfl, ldAt H 3 rfl X.st rfl rfl, ?_⟩
          refine ⟨?_, ?_⟩
          · refine app1B (E := eI) TI H 4 rfl 2 rfl (0) rfl b1 c1 fun s0 h H => ?_
            refine ⟨ldAt H 3 rfl X.sr rfl rfl, ldAt H 3 rfl X.sb rfl rfl, ldAt H 3 rfl X.st rfl rfl, ?_⟩
            refine ⟨?_, ?_⟩
            · refine app1B (E := eI) TI H 5 rfl 0 rfl (0) rfl b2 c2 fun s1 h H => ?_
              refine ⟨ldAt H 3 rfl X.sb rfl rfl, ldAt H 3 rfl X.st rfl rfl, ?_⟩
              refine ⟨?_, ?_⟩
              · refine app1B (E := eI) TI H 6 rfl 1 rfl (0) rfl b3 c3 fun s2 h H => ?_
                refine ⟨ldAt H 3 rfl X.st rfl rfl, ?_⟩
                refine allocAt (cs := [.int .i64 (0)]) H fun h b H => ?_
                refine ⟨ldAt H 4 rfl X.sc rfl rfl, ldAt H 4 rfl X.sr rfl rfl, ldAt H 4 rfl X.sb rfl rfl, ldAt H 4 rfl X.st rfl rfl, ?_⟩
                refine app1B (E := eI) TI H 8 rfl 0 rfl (0) rfl b4 c4 fun s3 h H => ?_
                exact leafA (H.drop 4) rfl fun h H => ⟨s0, s1, s2, s3, H⟩
              · refine allocAt (cs := [.int .i64 (0)]) H fun h b H => ?_
                refine ⟨ldAt H 4 rfl X.sc rfl rfl, ldAt H 4 rfl X.sr rfl rfl, ldAt H 4 rfl X.sb rfl rfl, ldAt H 4 rfl X.st rfl rfl, ?_⟩
                refine app1B (E := eI) TI H 7 rfl 2 rfl (0) rfl b3 c3 fun s2 h H => ?_
                refine ⟨ldAt H 4 rfl X.st rfl rfl, ?_⟩
                refine app1B (E := eI) TI H 8 rfl 0 rfl (0) rfl b4 c4 fun s3 h H => ?_
                exact leafA (H.drop 4) rfl fun h H => ⟨s0, s1, s2, s3, H⟩
            · refine allocAt (cs := [.int .i64 (0)]) H fun h b H => ?_
              refine ⟨ldAt H 4 rfl X.sc rfl rfl, ldAt H 4 rfl X.sr rfl rfl, ldAt H 4 rfl X.sb rfl rfl, ldAt H 4 rfl X.st rfl rfl, ?_⟩
              refine app1B (E := eI) TI H 6 rfl 1 rfl (0) rfl b2 c2 fun s1 h H => ?_
              refine ⟨ldAt H 4 rfl X.sb rfl rfl, ldAt H 4 rfl X.st rfl rfl, ?_⟩
              refine app1B (E := eI) TI H 7 rfl 2 rfl (0) rfl b3 c3 fun s2 h H => ?_
              refine ⟨ldAt H 4 rfl X.st rfl rfl, ?_⟩
              refine app1B (E := eI) TI H 8 rfl 0 rfl (0) rfl b4 c4 fun s3 h H => ?_
              exact leafA (H.drop 4) rfl fun h H => ⟨s0, s1, s2, s3, H⟩
          · refine allocAt (cs := [.int .i64 (0)]) H fun h b H => ?_
            refine ⟨ldAt H 4 rfl X.sc rfl rfl, ldAt H 4 rfl X.sr rfl rfl, ldAt H 4 rfl X.sb rfl rfl, ldAt H 4 rfl X.st rfl rfl, ?_⟩
            refine app1B (E := eI) TI H 5 rfl 3 rfl (0) rfl b1 c1 fun s0 h H => ?_
            refine ⟨ldAt H 4 rfl X.sr rfl rfl, ldAt H 4 rfl X.sb rfl rfl, ldAt H 4 rfl X.st rfl rfl, ?_⟩
            refine app1B (E := eI) TI H 6 rfl 1 rfl (0) rfl b2 c2 fun s1 h H => ?_
            refine ⟨ldAt H 4 rfl X.sb rfl rfl, ldAt H 4 rfl X.st rfl rfl, ?_⟩
            refine app1B (E := eI) TI H 7 rfl 2 rfl (0) rfl b3 c3 fun s2 h H => ?_
            refine ⟨ldAt H 4 rfl X.st rfl rfl, ?_⟩
            refine app1B (E := eI) TI H 8 rfl 0 rfl (0) rfl b4 c4 fun s3 h H => ?_
            exact leafA (H.drop 4) rfl fun h H => ⟨s0, s1, s2, s3, H⟩
        · refine allocAt (cs := [.int .i64 (0)]) H fun h b H => ?_
          refine ⟨ldAt H 3 rfl X.sc rfl rfl, ldAt H 3 rfl X.sr rfl rfl, ldAt H 3 rfl X.sb rfl rfl, ldAt H 3 rfl X.st rfl rfl, ?_⟩
          refine ⟨?_, ?_⟩
          · refine app1B (E := eI) TI H 4 rfl 2 rfl (0) rfl b1 c1 fun s0 h H => ?_
            refine ⟨ldAt H 3 rfl X.sr rfl rfl, ldAt H 3 rfl X.sb rfl rfl, ldAt H 3 rfl X.st rfl rfl, ?_⟩
            refine allocAt (cs := [.int .i64 (0)]) H fun h b H => ?_
            refine ⟨ldAt H 4 rfl X.sc rfl rfl, ldAt H 4 rfl X.sr rfl rfl, ldAt H 4 rfl X.sb rfl rfl, ldAt H 4 rfl X.st rfl rfl, ?_⟩
            refine app1B (E := eI) TI H 6 rfl 0 rfl (0) rfl b2 c2 fun s1 h H => ?_
            refine ⟨ldAt H 4 rfl X.sb rfl rfl, ldAt H 4 rfl X.st rfl rfl, ?_⟩
            refine app1B (E := eI) TI H 7 rfl 2 rfl (0) rfl b3 c3 fun s2 h H => ?_
            refine ⟨ldAt H 4 rfl X.st rfl rfl, ?_⟩
            refine app1B (E := eI) TI H 8 rfl 1 rfl (0) rfl b4 c4 fun s3 h H => ?_
            exact leafA (H.drop 4) rfl fun h H => ⟨s0, s1, s2, s3, H⟩
          · refine allocAt (cs := [.int .i64 (0)]) H fun h b H => ?_
            refine ⟨ldAt H 4 rfl X.sc rfl rfl, ldAt H 4 rfl X.sr rfl rfl, ldAt H 4 rfl X.sb rfl rfl, ldAt H 4 rfl X.st rfl rfl, ?_⟩
            refine app1B (E := eI) TI H 5 rfl 3 rfl (0) rfl b1 c1 fun s0 h H => ?_
            refine ⟨ldAt H 4 rfl X.sr rfl rfl, ldAt H 4 rfl X.sb rfl rfl, ldAt H 4 rfl X.st rfl rfl, ?_⟩
            refine app1B (E := eI) TI H 6 rfl 0 rfl (0) rfl b2 c2 fun s1 h H => ?_
            refine ⟨ldAt H 4 rfl X.sb rfl rfl, ldAt H 4 rfl X.st rfl rfl, ?_⟩
            refine app1B (E := eI) TI H 7 rfl 2 rfl (0) rfl b3 c3 fun s2 h H => ?_
            refine ⟨ldAt H 4 rfl X.st rfl rfl, ?_⟩
            refine app1B (E := eI) TI H 8 rfl 1 rfl (0) rfl b4 c4 fun s3 h H => ?_
            exact leafA (H.drop 4) rfl fun h H => ⟨s0, s1, s2, s3, H⟩
      · refine allocAt (cs := [.int .i64 (0)]) H fun h b H => ?_
        refine ⟨ldAt H 2 rfl X.sc rfl rfl, ldAt H 2 rfl X.sr rfl rfl, ldAt H 2 rfl X.sb rfl rfl, ldAt H 2 rfl X.st rfl rfl, ?_⟩
        refine ⟨?_, ?_, ?_⟩
        · refine app1B (E := eI) TI H 3 rfl 1 rfl (0) rfl b1 c1 fun s0 h H => ?_
          refine ⟨ldAt H 2 rfl X.sr rfl rfl, ldAt H 2 rfl X.sb rfl rfl, ldAt H 2 rfl X.st rfl rfl, ?_⟩
          refine ⟨?_, ?_⟩
          · refine allocAt (cs := [.int .i64 (0)]) H fun h b H => ?_
            refine ⟨ldAt H 3 rfl X.sc rfl rfl, ldAt H 3 rfl X.sr rfl rfl, ldAt H 3 rfl X.sb rfl rfl, ldAt H 3 rfl X.st rfl rfl, ?_⟩
            refine ⟨?_, ?_⟩
            · refine app1B (E := eI) TI H 5 rfl 0 rfl (0) rfl b2 c2 fun s1 h H => ?_
              refine ⟨ldAt H 3 rfl X.sb rfl rfl, ldAt H 3 rfl X.st rfl rfl, ?_⟩
              refine allocAt (cs := [.int .i64 (0)]) H fun h b H => ?_
              refine ⟨ldAt H 4 rfl X.sc rfl rfl, ldAt H 4 rfl X.sr rfl rfl, ldAt H 4 rfl X.sb rfl rfl, ldAt H 4 rfl X.st rfl rfl, ?_⟩
              refine app1B (E := eI) TI H 7 rfl 0 rfl (0) rfl b3 c3 fun s2 h H => ?_
              refine ⟨ldAt H 4 rfl X.st rfl rfl, ?_⟩
              refine app1B (E := eI) TI H 8 rfl 2 rfl (0) rfl b4 c4 fun s3 h H => ?_
              exact leafA (H.drop 4) rfl fun h H => ⟨s0, s1, s2, s3, H⟩
            · refine allocAt (cs := [.int .i64 (0)]) H fun h b H => ?_
              refine ⟨ldAt H 4 rfl X.sc rfl rfl, ldAt H 4 rfl X.sr rfl rfl, ldAt H 4 rfl X.sb rfl rfl, ldAt H 4 rfl X.st rfl rfl, ?_⟩
              refine app1B (E := eI) TI H 6 rfl 1 rfl (0) rfl b2 c2 fun s1 h H => ?_
              refine ⟨ldAt H 4 rfl X.sb rfl rfl, ldAt H 4 rfl X.st rfl rfl, ?_⟩
              refine app1B (E := eI) TI H 7 rfl 0 rfl (0) rfl b3 c3 fun s2 h H => ?_
              refine ⟨ldAt H 4 rfl X.st rfl rfl, ?_⟩
              refine app1B (E := eI) TI H 8 rfl 2 rfl (0) rfl b4 c4 fun s3 h H => ?_
              exact leafA (H.drop 4) rfl fun h H => ⟨s0, s1, s2, s3, H⟩
          · refine allocAt (cs := [.int .i64 (0)]) H fun h b H => ?_
            refine ⟨ldAt H 3 rfl X.sc rfl rfl, ldAt H 3 rfl X.sr rfl rfl, ldAt H 3 rfl X.sb rfl rfl, ldAt H 3 rfl X.st rfl rfl, ?_⟩
            refine allocAt (cs := [.int .i64 (0)]) H fun h b H => ?_
            refine ⟨ldAt H 4 rfl X.sc rfl rfl, ldAt H 4 rfl X.sr rfl rfl, ldAt H 4 rfl X.sb rfl rfl, ldAt H 4 rfl X.st rfl rfl, ?_⟩
            refine app1B (E := eI) TI H 6 rfl 0 rfl (0) rfl b2 c2 fun s1 h H => ?_
            refine ⟨ldAt H 4 rfl X.sb rfl rfl, ldAt H 4 rfl X.st rfl rfl, ?_⟩
            refine app1B (E := eI) TI H 7 rfl 1 rfl (0) rfl b3 c3 fun s2 h H => ?_
            refine ⟨ldAt H 4 rfl X.st rfl rfl, ?_⟩
            refine app1B (E := eI) TI H 8 rfl 2 rfl (0) rfl b4 c4 fun s3 h H => ?_
            exact leafA (H.drop 4) rfl fun h H => ⟨s0, s1, s2, s3, H⟩
        · refine allocAt (cs := [.int .i64 (0)]) H fun h b H => ?_
          refine ⟨ldAt H 3 rfl X.sc rfl rfl, ldAt H 3 rfl X.sr rfl rfl, ldAt H 3 rfl X.sb rfl rfl, ldAt H 3 rfl X.st rfl rfl, ?_⟩
          refine ⟨?_, ?_⟩
          · refine app1B (E := eI) TI H 4 rfl 2 rfl (0) rfl b1 c1 fun s0 h H => ?_
            refine ⟨ldAt H 3 rfl X.sr rfl rfl, ldAt H 3 rfl X.sb rfl rfl, ldAt H 3 rfl X.st rfl rfl, ?_⟩
            refine ⟨?_, ?_⟩
            · refine app1B (E := eI) TI H 5 rfl 0 rfl (0) rfl b2 c2 fun s1 h H => ?_
              refine ⟨ldAt H 3 rfl X.sb rfl rfl, ldAt H 3 rfl X.st rfl rfl, ?_⟩
              refine allocAt (cs := [.int .i64 (0)]) H fun h b H => ?_
              refine ⟨ldAt H 4 rfl X.sc rfl rfl, ldAt H 4 rfl X.sr rfl rfl, ldAt H 4 rfl X.sb rfl rfl, ldAt H 4 rfl X.st rfl rfl, ?_⟩
              refine app1B (E := eI) TI H 7 rfl 0 rfl (0) rfl b3 c3 fun s2 h H => ?_
              refine ⟨ldAt H 4 rfl X.st rfl rfl, ?_⟩
              refine app1B (E := eI) TI H 8 rfl 2 rfl (0) rfl b4 c4 fun s3 h H => ?_
              exact leafA (H.drop 4) rfl fun h H => ⟨s0, s1, s2, s3, H⟩
            · refine allocAt (cs := [.int .i64 (0)]) H fun h b H => ?_
              refine ⟨ldAt H 4 rfl X.sc rfl rfl, ldAt H 4 rfl X.sr rfl rfl, ldAt H 4 rfl X.sb rfl rfl, ldAt H 4 rfl X.st rfl rfl, ?_⟩
              refine app1B (E := eI) TI H 6 rfl 1 rfl (0) rfl b2 c2 fun s1 h H => ?_
              refine ⟨ldAt H 4 rfl X.sb rfl rfl, ldAt H 4 rfl X.st rfl rfl, ?_⟩
              refine app1B (E := eI) TI H 7 rfl 0 rfl (0) rfl b3 c3 fun s2 h H => ?_
              refine ⟨ldAt H 4 rfl X.st rfl rfl, ?_⟩
              refine app1B (E := eI) TI H 8 rfl 2 rfl (0) rfl b4 c4 fun s3 h H => ?_
              exact leafA (H.drop 4) rfl fun h H => ⟨s0, s1, s2, s3, H⟩
          · refine allocAt (cs := [.int .i64 (0)]) H fun h b H => ?_
            refine ⟨ldAt H 4 rfl X.sc rfl rfl, ldAt H 4 rfl X.sr rfl rfl, ldAt H 4 rfl X.sb rfl rfl, ldAt H 4 rfl X.st rfl rfl, ?_⟩
            refine app1B (E := eI) TI H 5 rfl 3 rfl (0) rfl b1 c1 fun s0 h H => ?_
            refine ⟨ldAt H 4 rfl X.sr rfl rfl, ldAt H 4 rfl X.sb rfl rfl, ldAt H 4 rfl X.st rfl rfl, ?_⟩
            refine app1B (E := eI) TI H 6 rfl 1 rfl (0) rfl b2 c2 fun s1 h H => ?_
            refine ⟨ldAt H 4 rfl X.sb rfl rfl, ldAt H 4 rfl X.st rfl rfl, ?_⟩
            refine app1B (E := eI) TI H 7 rfl 0 rfl (0) rfl b3 c3 fun s2 h H => ?_
            refine ⟨ldAt H 4 rfl X.st rfl rfl, ?_⟩
            refine app1B (E := eI) TI H 8 rfl 2 rfl (0) rfl b4 c4 fun s3 h H => ?_
            exact leafA (H.drop 4) rfl fun h H => ⟨s0, s1, s2, s3, H⟩
        · refine allocAt (cs := [.int .i64 (0)]) H fun h b H => ?_
          refine ⟨ldAt H 3 rfl X.sc rfl rfl, ldAt H 3 rfl X.sr rfl rfl, ldAt H 3 rfl X.sb rfl rfl, ldAt H 3 rfl X.st rfl rfl, ?_⟩
          refine ⟨?_, ?_⟩
          · refine app1B (E := eI) TI H 4 rfl 2 rfl (0) rfl b1 c1 fun s0 h H => ?_
            refine ⟨ldAt H 3 rfl X.sr rfl rfl, ldAt H 3 rfl X.sb rfl rfl, ldAt H 3 rfl X.st rfl rfl, ?_⟩
            refine allocAt (cs := [.int .i64 (0)]) H fun h b H => ?_
            refine ⟨ldAt H 4 rfl X.sc rfl rfl, ldAt H 4 rfl X.sr rfl rfl, ldAt H 4 rfl X.sb rfl rfl, ldAt H 4 rfl X.st rfl rfl, ?_⟩
            refine app1B (E := eI) TI H 6 rfl 0 rfl (0) rfl b2 c2 fun s1 h H => ?_
            refine ⟨ldAt H 4 rfl X.sb rfl rfl, ldAt H 4 rfl X.st rfl rfl, ?_⟩
            refine app1B (E := eI) TI H 7 rfl 1 rfl (0) rfl b3 c3 fun s2 h H => ?_
            refine ⟨ldAt H 4 rfl X.st rfl rfl, ?_⟩
            refine app1B (E := eI) TI H 8 rfl 2 rfl (0) rfl b4 c4 fun s3 h H => ?_
            exact leafA (H.drop 4) rfl fun h H => ⟨s0, s1, s2, s3, H⟩
          · refine allocAt (cs := [.int .i64 (0)]) H fun h b H => ?_
            refine ⟨ldAt H 4 rfl X.sc rfl rfl, ldAt H 4 rfl X.sr rfl rfl, ldAt H 4 rfl X.sb rfl rfl, ldAt H 4 rfl X.st rfl rfl, ?_⟩
            refine app1B (E := eI) TI H 5 rfl 3 rfl (0) rfl b1 c1 fun s0 h H => ?_
            refine ⟨ldAt H 4 rfl X.sr rfl rfl, ldAt H 4 rfl X.sb rfl rfl, ldAt H 4 rfl X.st rfl rfl, ?_⟩
            refine app1B (E := eI) TI H 6 rfl 0 rfl (0) rfl b2 c2 fun s1 h H => ?_
            refine ⟨ldAt H 4 rfl X.sb rfl rfl, ldAt H 4 rfl X.st rfl rfl, ?_⟩
            refine app1B (E := eI) TI H 7 rfl 1 rfl (0) rfl b3 c3 fun s2 h H => ?_
            refine ⟨ldAt H 4 rfl X.st rfl rfl, ?_⟩
            refine app1B (E := eI) TI H 8 rfl 2 rfl (0) rfl b4 c4 fun s3 h H => ?_
            exact leafA (H.drop 4) rfl fun h H => ⟨s0, s1, s2, s3, H⟩
    · refine allocAt (cs := [.int .i64 (0)]) H fun h b H => ?_
      refine ⟨ldAt H 1 rfl X.sc rfl rfl, ldAt H 1 rfl X.sr rfl rfl, ldAt H 1 rfl X.sb rfl rfl, ldAt H 1 rfl X.st rfl rfl, ?_⟩
      refine ⟨?_, ?_, ?_⟩
      · refine allocAt (cs := [.int .i64 (0)]) H fun h b H => ?_
        refine ⟨ldAt H 2 rfl X.sc rfl rfl, ldAt H 2 rfl X.sr rfl rfl, ldAt H 2 rfl X.sb rfl rfl, ldAt H 2 rfl X.st rfl rfl, ?_⟩
        refine ⟨?_, ?_, ?_⟩
        · refine app1B (E := eI) TI H 3 rfl 0 rfl (0) rfl b1 c1 fun s0 h H => ?_
          refine ⟨ldAt H 2 rfl X.sr rfl rfl, ldAt H 2 rfl X.sb rfl rfl, ldAt H 2 rfl X.st rfl rfl, ?_⟩
          refine ⟨?_, ?_, ?_⟩
          · refine app1B (E := eI) TI H 4 rfl 1 rfl (0) rfl b2 c2 fun s1 h H => ?_
            refine ⟨ldAt H 2 rfl X.sb rfl rfl, ldAt H 2 rfl X.st rfl rfl, ?_⟩
            refine ⟨?_, ?_⟩
            · refine allocAt (cs := [.int .i64 (0)]) H fun h b H => ?_
              refine ⟨ldAt H 3 rfl X.sc rfl rfl, ldAt H 3 rfl X.sr rfl rfl, ldAt H 3 rfl X.sb rfl rfl, ldAt H 3 rfl X.st rfl rfl, ?_⟩
              refine ⟨?_, ?_⟩
              · refine app1B (E := eI) TI H 6 rfl 0 rfl (0) rfl b3 c3 fun s2 h H => ?_
                refine ⟨ldAt H 3 rfl X.st rfl rfl, ?_⟩
                refine allocAt (cs := [.int .i64 (0)]) H fun h b H => ?_
                refine ⟨ldAt H 4 rfl X.sc rfl rfl, ldAt H 4 rfl X.sr rfl rfl, ldAt H 4 rfl X.sb rfl rfl, ldAt H 4 rfl X.st rfl rfl, ?_⟩
                refine app1B (E := eI) TI H 8 rfl 0 rfl (0) rfl b4 c4 fun s3 h H => ?_
                exact leafA (H.drop 4) rfl fun h H => ⟨s0, s1, s2, s3, H⟩
              · refine allocAt (cs := [.int .i64 (0)]) H fun h b H => ?_
                refine ⟨ldAt H 4 rfl X.sc rfl rfl, ldAt H 4 rfl X.sr rfl rfl, ldAt H 4 rfl X.sb rfl rfl, ldAt H 4 rfl X.st rfl rfl, ?_⟩
                refine app1B (E := eI) TI H 7 rfl 1 rfl (0) rfl b3 c3 fun s2 h H => ?_
                refine ⟨ldAt H 4 rfl X.st rfl rfl, ?_⟩
                refine app1B (E := eI) TI H 8 rfl 0 rfl (0) rfl b4 c4 fun s3 h H => ?_
                exact leafA (H.drop 4) rfl fun h H => ⟨s0, s1, s2, s3, H⟩
            · refine allocAt (cs := [.int .i64 (0)]) H fun h b H => ?_
              refine ⟨ldAt H 3 rfl X.sc rfl rfl, ldAt H 3 rfl X.sr rfl rfl, ldAt H 3 rfl X.sb rfl rfl, ldAt H 3 rfl X.st rfl rfl, ?_⟩
              refine allocAt (cs := [.int .i64 (0)]) H fun h b H => ?_
              refine ⟨ldAt H 4 rfl X.sc rfl rfl, ldAt H 4 rfl X.sr rfl rfl, ldAt H 4 rfl X.sb rfl rfl, ldAt H 4 rfl X.st rfl rfl, ?_⟩
              refine app1B (E := eI) TI H 7 rfl 0 rfl (0) rfl b3 c3 fun s2 h H => ?_
              refine ⟨ldAt H 4 rfl X.st rfl rfl, ?_⟩
              refine app1B (E := eI) TI H 8 rfl 1 rfl (0) rfl b4 c4 fun s3 h H => ?_
              exact leafA (H.drop 4) rfl fun h H => ⟨s0, s1, s2, s3, H⟩
          · refine allocAt (cs := [.int .i64 (0)]) H fun h b H => ?_
            refine ⟨ldAt H 3 rfl X.sc rfl rfl, ldAt H 3 rfl X.sr rfl rfl, ldAt H 3 rfl X.sb rfl rfl, ldAt H 3 rfl X.st rfl rfl, ?_⟩
            refine ⟨?_, ?_⟩
            · refine app1B (E := eI) TI H 5 rfl 2 rfl (0) rfl b2 c2 fun s1 h H => ?_
              refine ⟨ldAt H 3 rfl X.sb rfl rfl, ldAt H 3 rfl X.st rfl rfl, ?_⟩
              refine ⟨?_, ?_⟩
              · refine app1B (E := eI) TI H 6 rfl 0 rfl (0) rfl b3 c3 fun s2 h H => ?_
                refine ⟨ldAt H 3 rfl X.st rfl rfl, ?_⟩
                refine allocAt (cs := [.int .i64 (0)]) H fun h b H => ?_
                refine ⟨ldAt H 4 rfl X.sc rfl rfl, ldAt H 4 rfl X.sr rfl rfl, ldAt H 4 rfl X.sb rfl rfl, ldAt H 4 rfl X.st rfl rfl, ?_⟩
                refine app1B (E := eI) TI H 8 rfl 0 rfl (0) rfl b4 c4 fun s3 h H => ?_
                exact leafA (H.drop 4) rfl fun h H => ⟨s0, s1, s2, s3, H⟩
              · refine allocAt (cs := [.int .i64 (0)]) H fun h b H => ?_
                refine ⟨ldAt H 4 rfl X.sc rfl rfl, ldAt H 4 rfl X.sr rfl rfl, ldAt H 4 rfl X.sb rfl rfl, ldAt H 4 rfl X.st rfl rfl, ?_⟩
                refine app1B (E := eI) TI H 7 rfl 1 rfl (0) rfl b3 c3 fun s2 h H => ?_
                refine ⟨ldAt H 4 rfl X.st rfl rfl, ?_⟩
                refine app1B (E := eI) TI H 8 rfl 0 rfl (0) rfl b4 c4 fun s3 h H => ?_
                exact leafA (H.drop 4) rfl fun h H => ⟨s0, s1, s2, s3, H⟩
            · refine allocAt (cs := [.int .i64 (0)]) H fun h b H => ?_
              refine ⟨ldAt H 4 rfl X.sc rfl rfl, ldAt H 4 rfl X.sr rfl rfl, ldAt H 4 rfl X.sb rfl rfl, ldAt H 4 rfl X.st rfl rfl, ?_⟩
              refine app1B (E := eI) TI H 6 rfl 3 rfl (0) rfl b2 c2 fun s1 h H => ?_
              refine ⟨ldAt H 4 rfl X.sb rfl rfl, ldAt H 4 rfl X.st rfl rfl, ?_⟩
              refine app1B (E := eI) TI H 7 rfl 1 rfl (0) rfl b3 c3 fun s2 h H => ?_
              refine ⟨ldAt H 4 rfl X.st rfl rfl, ?_⟩
              refine app1B (E := eI) TI H 8 rfl 0 rfl (0) rfl b4 c4 fun s3 h H => ?_
              exact leafA (H.drop 4) rfl fun h H => ⟨s0, s1, s2, s3, H⟩
          · refine allocAt (cs := [.int .i64 (0)]) H fun h b H => ?_
            refine ⟨ldAt H 3 rfl X.sc rfl rfl, ldAt H 3 rfl X.sr rfl rfl, ldAt H 3 rfl X.sb rfl rfl, ldAt H 3 rfl X.st rfl rfl, ?_⟩
            refine ⟨?_, ?_⟩
            · refine app1B (E := eI) TI H 5 rfl 2 rfl (0) rfl b2 c2 fun s1 h H => ?_
              refine ⟨ldAt H 3 rfl X.sb rfl rfl, ldAt H 3 rfl X.st rfl rfl, ?_⟩
              refine allocAt (cs := [.int .i64 (0)]) H fun h b H => ?_
              refine ⟨ldAt H 4 rfl X.sc rfl rfl, ldAt H 4 rfl X.sr rfl rfl, ldAt H 4 rfl X.sb rfl rfl, ldAt H 4 rfl X.st rfl rfl, ?_⟩
              refine app1B (E := eI) TI H 7 rfl 0 rfl (0) rfl b3 c3 fun s2 h H => ?_
              refine ⟨ldAt H 4 rfl X.st rfl rfl, ?_⟩
              refine app1B (E := eI) TI H 8 rfl 1 rfl (0) rfl b4 c4 fun s3 h H => ?_
              exact leafA (H.drop 4) rfl fun h H => ⟨s0, s1, s2, s3, H⟩
            · refine allocAt (cs := [.int .i64 (0)]) H fun h b H => ?_
              refine ⟨ldAt H 4 rfl X.sc rfl rfl, ldAt H 4 rfl X.sr rfl rfl, ldAt H 4 rfl X.sb rfl rfl, ldAt H 4 rfl X.st rfl rfl, ?_⟩
              refine app1B (E := eI) TI H 6 rfl 3 rfl (0) rfl b2 c2 fun s1 h H => ?_
              refine ⟨ldAt H 4 rfl X.sb rfl rfl, ldAt H 4 rfl X.st rfl rfl, ?_⟩
              refine app1B (E := eI) TI H 7 rfl 0 rfl (0) rfl b3 c3 fun s2 h H => ?_
              refine ⟨ldAt H 4 rfl X.st rfl rfl, ?_⟩
              refine app1B (E := eI) TI H 8 rfl 1 rfl (0) rfl b4 c4 fun s3 h H => ?_
              exact leafA (H.drop 4) rfl fun h H => ⟨s0, s1, s2, s3, H⟩
        · refine allocAt (cs := [.int .i64 (0)]) H fun h b H => ?_
          refine ⟨ldAt H 3 rfl X.sc rfl rfl, ldAt H 3 rfl X.sr rfl rfl, ldAt H 3 rfl X.sb rfl rfl, ldAt H 3 rfl X.st rfl rfl, ?_⟩
          refine ⟨?_, ?_⟩
          · refine app1B (E := eI) TI H 4 rfl 1 rfl (0) rfl b1 c1 fun s0 h H => ?_
            refine ⟨ldAt H 3 rfl X.sr rfl rfl, ldAt H 3 rfl X.sb rfl rfl, ldAt H 3 rfl X.st rfl rfl, ?_⟩
            refine ⟨?_, ?_⟩
            · refine app1B (E := eI) TI H 5 rfl 2 rfl (0) rfl b2 c2 fun s1 h H => ?_
              refine ⟨ldAt H 3 rfl X.sb rfl rfl, ldAt H 3 rfl X.st rfl rfl, ?_⟩
              refine ⟨?_, ?_⟩
              · refine app1B (E := eI) TI H 6 rfl 0 rfl (0) rfl b3 c3 fun s2 h H => ?_
                refine ⟨ldAt H 3 rfl X.st rfl rfl, ?_⟩
                refine allocAt (cs := [.int .i64 (0)]) H fun h b H => ?_
                refine ⟨ldAt H 4 rfl X.sc rfl rfl, ldAt H 4 rfl X.sr rfl rfl, ldAt H 4 rfl X.sb rfl rfl, ldAt H 4 rfl X.st rfl rfl, ?_⟩
                refine app1B (E := eI) TI H 8 rfl 0 rfl (0) rfl b4 c4 fun s3 h H => ?_
                exact leafA (H.drop 4) rfl fun h H => ⟨s0, s1, s2, s3, H⟩
              · refine allocAt (cs := [.int .i64 (0)]) H fun h b H => ?_
                refine ⟨ldAt H 4 rfl X.sc rfl rfl, ldAt H 4 rfl X.sr rfl rfl, ldAt H 4 rfl X.sb rfl rfl, ldAt H 4 rfl X.st rfl rfl, ?_⟩
                refine app1B (E := eI) TI H 7 rfl 1 rfl (0) rfl b3 c3 fun s2 h H => ?_
                refine ⟨ldAt H 4 rfl X.st rfl rfl, ?_⟩
                refine app1B (E := eI) TI H 8 rfl 0 rfl (0) rfl b4 c4 fun s3 h H => ?_
                exact leafA (H.drop 4) rfl fun h H => ⟨s0, s1, s2, s3, H⟩
            · refine allocAt (cs := [.int .i64 (0)]) H fun h b H => ?_
              refine ⟨ldAt H 4 rfl X.sc rfl rfl, ldAt H 4 rfl X.sr rfl rfl, ldAt H 4 rfl X.sb rfl rfl, ldAt H 4 rfl X.st rfl rfl, ?_⟩
              refine app1B (E := eI) TI H 6 rfl 3 rfl (0) rfl b2 c2 fun s1 h H => ?_
              refine ⟨ldAt H 4 rfl X.sb rfl rfl, ldAt H 4 rfl X.st rfl rfl, ?_⟩
              refine app1B (E := eI) TI H 7 rfl 1 rfl (0) rfl b3 c3 fun s2 h H => ?_
              refine ⟨ldAt H 4 rfl X.st rfl rfl, ?_⟩
              refine app1B (E := eI) TI H 8 rfl 0 rfl (0) rfl b4 c4 fun s3 h H => ?_
              exact leafA (H.drop 4) rfl fun h H => ⟨s0, s1, s2, s3, H⟩
          · refine allocAt (cs := [.int .i64 (0)]) H fun h b H => ?_
            refine ⟨ldAt H 4 rfl X.sc rfl rfl, ldAt H 4 rfl X.sr rfl rfl, ldAt H 4 rfl X.sb rfl rfl, ldAt H 4 rfl X.st rfl rfl, ?_⟩
            refine app1B (E := eI) TI H 5 rfl 2 rfl (0) rfl b1 c1 fun s0 h H => ?_
            refine ⟨ldAt H 4 rfl X.sr rfl rfl, ldAt H 4 rfl X.sb rfl rfl, ldAt H 4 rfl X.st rfl rfl, ?_⟩
            refine app1B (E := eI) TI H 6 rfl 3 rfl (0) rfl b2 c2 fun s1 h H => ?_
            refine ⟨ldAt H 4 rfl X.sb rfl rfl, ldAt H 4 rfl X.st rfl rfl, ?_⟩
            refine app1B (E := eI) TI H 7 rfl 1 rfl (0) rfl b3 c3 fun s2 h H => ?_
            refine ⟨ldAt H 4 rfl X.st rfl rfl, ?_⟩
            refine app1B (E := eI) TI H 8 rfl 0 rfl (0) rfl b4 c4 fun s3 h H => ?_
            exact leafA (H.drop 4) rfl fun h H => ⟨s0, s1, s2, s3, H⟩
        · refine allocAt (cs := [.int .i64 (0)]) H fun h b H => ?_
          refine ⟨ldAt H 3 rfl X.sc rfl rfl, ldAt H 3 rfl X.sr rfl rfl, ldAt H 3 rfl X.sb rfl rfl, ldAt H 3 rfl X.st rfl rfl, ?_⟩
          refine ⟨?_, ?_⟩
          · refine app1B (E := eI) TI H 4 rfl 1 rfl (0) rfl b1 c1 fun s0 h H => ?_
            refine ⟨ldAt H 3 rfl X.sr rfl rfl, ldAt H 3 rfl X.sb rfl rfl, ldAt H 3 rfl X.st rfl rfl, ?_⟩
            refine ⟨?_, ?_⟩
            · refine app1B (E := eI) TI H 5 rfl 2 rfl (0) rfl b2 c2 fun s1 h H => ?_
              refine ⟨ldAt H 3 rfl X.sb rfl rfl, ldAt H 3 rfl X.st rfl rfl, ?_⟩
              refine allocAt (cs := [.int .i64 (0)]) H fun h b H => ?_
              refine ⟨ldAt H 4 rfl X.sc rfl rfl, ldAt H 4 rfl X.sr rfl rfl, ldAt H 4 rfl X.sb rfl rfl, ldAt H 4 rfl X.st rfl rfl, ?_⟩
              refine app1B (E := eI) TI H 7 rfl 0 rfl (0) rfl b3 c3 fun s2 h H => ?_
              refine ⟨ldAt H 4 rfl X.st rfl rfl, ?_⟩
              refine app1B (E := eI) TI H 8 rfl 1 rfl (0) rfl b4 c4 fun s3 h H => ?_
              exact leafA (H.drop 4) rfl fun h H => ⟨s0, s1, s2, s3, H⟩
            · refine allocAt (cs := [.int .i64 (0)]) H fun h b H => ?_
              refine ⟨ldAt H 4 rfl X.sc rfl rfl, ldAt H 4 rfl X.sr rfl rfl, ldAt H 4 rfl X.sb rfl rfl, ldAt H 4 rfl X.st rfl rfl, ?_⟩
              refine app1B (E := eI) TI H 6 rfl 3 rfl (0) rfl b2 c2 fun s1 h H => ?_
              refine ⟨ldAt H 4 rfl X.sb rfl rfl, ldAt H 4 rfl X.st rfl rfl, ?_⟩
              refine app1B (E := eI) TI H 7 rfl 0 rfl (0) rfl b3 c3 fun s2 h H => ?_
              refine ⟨ldAt H 4 rfl X.st rfl rfl, ?_⟩
              refine app1B (E := eI) TI H 8 rfl 1 rfl (0) rfl b4 c4 fun s3 h H => ?_
              exact leafA (H.drop 4) rfl fun h H => ⟨s0, s1, s2, s3, H⟩
          · refine allocAt (cs := [.int .i64 (0)]) H fun h b H => ?_
            refine ⟨ldAt H 4 rfl X.sc rfl rfl, ldAt H 4 rfl X.sr rfl rfl, ldAt H 4 rfl X.sb rfl rfl, ldAt H 4 rfl X.st rfl rfl, ?_⟩
            refine app1B (E := eI) TI H 5 rfl 2 rfl (0) rfl b1 c1 fun s0 h H => ?_
            refine ⟨ldAt H 4 rfl X.sr rfl rfl, ldAt H 4 rfl X.sb rfl rfl, ldAt H 4 rfl X.st rfl rfl, ?_⟩
            refine app1B (E := eI) TI H 6 rfl 3 rfl (0) rfl b2 c2 fun s1 h H => ?_
            refine ⟨ldAt H 4 rfl X.sb rfl rfl, ldAt H 4 rfl X.st rfl rfl, ?_⟩
            refine app1B (E := eI) TI H 7 rfl 0 rfl (0) rfl b3 c3 fun s2 h H => ?_
            refine ⟨ldAt H 4 rfl X.st rfl rfl, ?_⟩
            refine app1B (E := eI) TI H 8 rfl 1 rfl (0) rfl b4 c4 fun s3 h H => ?_
            exact leafA (H.drop 4) rfl fun h H => ⟨s0, s1, s2, s3, H⟩
      · refine allocAt (cs := [.int .i64 (0)]) H fun h b H => ?_
        refine ⟨ldAt H 2 rfl X.sc rfl rfl, ldAt H 2 rfl X.sr rfl rfl, ldAt H 2 rfl X.sb rfl rfl, ldAt H 2 rfl X.st rfl rfl, ?_⟩
        refine ⟨?_, ?_⟩
        · refine allocAt (cs := [.int .i64 (0)]) H fun h b H => ?_
          refine ⟨ldAt H 3 rfl X.sc rfl rfl, ldAt H 3 rfl X.sr rfl rfl, ldAt H 3 rfl X.sb rfl rfl, ldAt H 3 rfl X.st rfl rfl, ?_⟩
          refine ⟨?_, ?_⟩
          · refine app1B (E := eI) TI H 4 rfl 0 rfl (0) rfl b1 c1 fun s0 h H => ?_
            refine ⟨ldAt H 3 rfl X.sr rfl rfl, ldAt H 3 rfl X.sb rfl rfl, ldAt H 3 rfl X.st rfl rfl, ?_⟩
            refine ⟨?_, ?_⟩
            · refine app1B (E := eI) TI H 5 rfl 2 rfl (0) rfl b2 c2 fun s1 h H => ?_
              refine ⟨ldAt H 3 rfl X.sb rfl rfl, ldAt H 3 rfl X.st rfl rfl, ?_⟩
              refine ⟨?_, ?_⟩
              · refine app1B (E := eI) TI H 6 rfl 1 rfl (0) rfl b3 c3 fun s2 h H => ?_
                refine ⟨ldAt H 3 rfl X.st rfl rfl, ?_⟩
                refine allocAt (cs := [.int .i64 (0)]) H fun h b H => ?_
                refine ⟨ldAt H 4 rfl X.sc rfl rfl, ldAt H 4 rfl X.sr rfl rfl, ldAt H 4 rfl X.sb rfl rfl, ldAt H 4 rfl X.st rfl rfl, ?_⟩
                refine app1B (E := eI) TI H 8 rfl 0 rfl (0) rfl b4 c4 fun s3 h H => ?_
                exact leafA (H.drop 4) rfl fun h H => ⟨s0, s1, s2, s3, H⟩
              · refine allocAt (cs := [.int .i64 (0)]) H fun h b H => ?_
                refine ⟨ldAt H 4 rfl X.sc rfl rfl, ldAt H 4 rfl X.sr rfl rfl, ldAt H 4 rfl X.sb rfl rfl, ldAt H 4 rfl X.st rfl rfl, ?_⟩
                refine app1B (E := eI) TI H 7 rfl 2 rfl (0) rfl b3 c3 fun s2 h H => ?_
                refine ⟨ldAt H 4 rfl X.st rfl rfl, ?_⟩
                refine app1B (E := eI) TI H 8 rfl 0 rfl (0) rfl b4 c4 fun s3 h H => ?_
                exact leafA (H.drop 4) rfl fun h H => ⟨s0, s1, s2, s3, H⟩
            · refine allocAt (cs := [.int .i64 (0)]) H fun h b H => ?_
              refine ⟨ldAt H 4 rfl X.sc rfl rfl, ldAt H 4 rfl X.sr rfl rfl, ldAt H 4 rfl X.sb rfl rfl, ldAt H 4 rfl X.st rfl rfl, ?_⟩
              refine app1B (E := eI) TI H 6 rfl 3 rfl (0) rfl b2 c2 fun s1 h H => ?_
              refine ⟨ldAt H 4 rfl X.sb rfl rfl, ldAt H 4 rfl X.st rfl rfl, ?_⟩
              refine app1B (E := eI) TI H 7 rfl 2 rfl (0) rfl b3 c3 fun s2 h H => ?_
              refine ⟨ldAt H 4 rfl X.st rfl rfl, ?_⟩
              refine app1B (E := eI) TI H 8 rfl 0 rfl (0) rfl b4 c4 fun s3 h H => ?_
              exact leafA (H.drop 4) rfl fun h H => ⟨s0, s1, s2, s3, H⟩
          · refine allocAt (cs := [.int .i64 (0)]) H fun h b H => ?_
            refine ⟨ldAt H 4 rfl X.sc rfl rfl, ldAt H 4 rfl X.sr rfl rfl, ldAt H 4 rfl X.sb rfl rfl, ldAt H 4 rfl X.st rfl rfl, ?_⟩
            refine app1B (E := eI) TI H 5 rfl 1 rfl (0) rfl b1 c1 fun s0 h H => ?_
            refine ⟨ldAt H 4 rfl X.sr rfl rfl, ldAt H 4 rfl X.sb rfl rfl, ldAt H 4 rfl X.st rfl rfl, ?_⟩
            refine app1B (E := eI) TI H 6 rfl 3 rfl (0) rfl b2 c2 fun s1 h H => ?_
            refine ⟨ldAt H 4 rfl X.sb rfl rfl, ldAt H 4 rfl X.st rfl rfl, ?_⟩
            refine app1B (E := eI) TI H 7 rfl 2 rfl (0) rfl b3 c3 fun s2 h H => ?_
            refine ⟨ldAt H 4 rfl X.st rfl rfl, ?_⟩
            refine app1B (E := eI) TI H 8 rfl 0 rfl (0) rfl b4 c4 fun s3 h H => ?_
            exact leafA (H.drop 4) rfl fun h H => ⟨s0, s1, s2, s3, H⟩
        · refine allocAt (cs := [.int .i64 (0)]) H fun h b H => ?_
          refine ⟨ldAt H 3 rfl X.sc rfl rfl, ldAt H 3 rfl X.sr rfl rfl, ldAt H 3 rfl X.sb rfl rfl, ldAt H 3 rfl X.st rfl rfl, ?_⟩
          refine allocAt (cs := [.int .i64 (0)]) H fun h b H => ?_
          refine ⟨ldAt H 4 rfl X.sc rfl rfl, ldAt H 4 rfl X.sr rfl rfl, ldAt H 4 rfl X.sb rfl rfl, ldAt H 4 rfl X.st rfl rfl, ?_⟩
          refine app1B (E := eI) TI H 5 rfl 0 rfl (0) rfl b1 c1 fun s0 h H => ?_
          refine ⟨ldAt H 4 rfl X.sr rfl rfl, ldAt H 4 rfl X.sb rfl rfl, ldAt H 4 rfl X.st rfl rfl, ?_⟩
          refine app1B (E := eI) TI H 6 rfl 3 rfl (0) rfl b2 c2 fun s1 h H => ?_
          refine ⟨ldAt H 4 rfl X.sb rfl rfl, ldAt H 4 rfl X.st rfl rfl, ?_⟩
          refine app1B (E := eI) TI H 7 rfl 2 rfl (0) rfl b3 c3 fun s2 h H => ?_
          refine ⟨ldAt H 4 rfl X.st rfl rfl, ?_⟩
          refine app1B (E := eI) TI H 8 rfl 1 rfl (0) rfl b4 c4 fun s3 h H => ?_
          exact leafA (H.drop 4) rfl fun h H => ⟨s0, s1, s2, s3, H⟩
      · refine allocAt (cs := [.int .i64 (0)]) H fun h b H => ?_
        refine ⟨ldAt H 2 rfl X.sc rfl rfl, ldAt H 2 rfl X.sr rfl rfl, ldAt H 2 rfl X.sb rfl rfl, ldAt H 2 rfl X.st rfl rfl, ?_⟩
        refine ⟨?_, ?_⟩
        · refine allocAt (cs := [.int .i64 (0)]) H fun h b H => ?_
          refine ⟨ldAt H 3 rfl X.sc rfl rfl, ldAt H 3 rfl X.sr rfl rfl, ldAt H 3 rfl X.sb rfl rfl, ldAt H 3 rfl X.st rfl rfl, ?_⟩
          refine ⟨?_, ?_⟩
          · refine app1B (E := eI) TI H 4 rfl 0 rfl (0) rfl b1 c1 fun s0 h H => ?_
            refine ⟨ldAt H 3 rfl X.sr rfl rfl, ldAt H 3 rfl X.sb rfl rfl, ldAt H 3 rfl X.st rfl rfl, ?_⟩
            refine ⟨?_, ?_⟩
            · refine app1B (E := eI) TI H 5 rfl 2 rfl (0) rfl b2 c2 fun s1 h H => ?_
              refine ⟨ldAt H 3 rfl X.sb rfl rfl, ldAt H 3 rfl X.st rfl rfl, ?_⟩
              refine allocAt (cs := [.int .i64 (0)]) H fun h b H => ?_
              refine ⟨ldAt H 4 rfl X.sc rfl rfl, ldAt H 4 rfl X.sr rfl rfl, ldAt H 4 rfl X.sb rfl rfl, ldAt H 4 rfl X.st rfl rfl, ?_⟩
              refine app1B (E := eI) TI H 7 rfl 0 rfl (0) rfl b3 c3 fun s2 h H => ?_
              refine ⟨ldAt H 4 rfl X.st rfl rfl, ?_⟩
              refine app1B (E := eI) TI H 8 rfl 2 rfl (0) rfl b4 c4 fun s3 h H => ?_
              exact leafA (H.drop 4) rfl fun h H => ⟨s0, s1, s2, s3, H⟩
            · refine allocAt (cs := [.int .i64 (0)]) H fun h b H => ?_
              refine ⟨ldAt H 4 rfl X.sc rfl rfl, ldAt H 4 rfl X.sr rfl rfl, ldAt H 4 rfl X.sb rfl rfl, ldAt H 4 rfl X.st rfl rfl, ?_⟩
              refine app1B (E := eI) TI H 6 rfl 3 rfl (0) rfl b2 c2 fun s1 h H => ?_
              refine ⟨ldAt H 4 rfl X.sb rfl rfl, ldAt H 4 rfl X.st rfl rfl, ?_⟩
              refine app1B (E := eI) TI H 7 rfl 0 rfl (0) rfl b3 c3 fun s2 h H => ?_
              refine ⟨ldAt H 4 rfl X.st rfl rfl, ?_⟩
              refine app1B (E := eI) TI H 8 rfl 2 rfl (0) rfl b4 c4 fun s3 h H => ?_
              exact leafA (H.drop 4) rfl fun h H => ⟨s0, s1, s2, s3, H⟩
          · refine allocAt (cs := [.int .i64 (0)]) H fun h b H => ?_
            refine ⟨ldAt H 4 rfl X.sc rfl rfl, ldAt H 4 rfl X.sr rfl rfl, ldAt H 4 rfl X.sb rfl rfl, ldAt H 4 rfl X.st rfl rfl, ?_⟩
            refine app1B (E := eI) TI H 5 rfl 1 rfl (0) rfl b1 c1 fun s0 h H => ?_
            refine ⟨ldAt H 4 rfl X.sr rfl rfl, ldAt H 4 rfl X.sb rfl rfl, ldAt H 4 rfl X.st rfl rfl, ?_⟩
            refine app1B (E := eI) TI H 6 rfl 3 rfl (0) rfl b2 c2 fun s1 h H => ?_
            refine ⟨ldAt H 4 rfl X.sb rfl rfl, ldAt H 4 rfl X.st rfl rfl, ?_⟩
            refine app1B (E := eI) TI H 7 rfl 0 rfl (0) rfl b3 c3 fun s2 h H => ?_
            refine ⟨ldAt H 4 rfl X.st rfl rfl, ?_⟩
            refine app1B (E := eI) TI H 8 rfl 2 rfl (0) rfl b4 c4 fun s3 h H => ?_
            exact leafA (H.drop 4) rfl fun h H => ⟨s0, s1, s2, s3, H⟩
        · refine allocAt (cs := [.int .i64 (0)]) H fun h b H => ?_
          refine ⟨ldAt H 3 rfl X.sc rfl rfl, ldAt H 3 rfl X.sr rfl rfl, ldAt H 3 rfl X.sb rfl rfl, ldAt H 3 rfl X.st rfl rfl, ?_⟩
          refine allocAt (cs := [.int .i64 (0)]) H fun h b H => ?_
          refine ⟨ldAt H 4 rfl X.sc rfl rfl, ldAt H 4 rfl X.sr rfl rfl, ldAt H 4 rfl X.sb rfl rfl, ldAt H 4 rfl X.st rfl rfl, ?_⟩
          refine app1B (E := eI) TI H 5 rfl 0 rfl (0) rfl b1 c1 fun s0 h H => ?_
          refine ⟨ldAt H 4 rfl X.sr rfl rfl, ldAt H 4 rfl X.sb rfl rfl, ldAt H 4 rfl X.st rfl rfl, ?_⟩
          refine app1B (E := eI) TI H 6 rfl 3 rfl (0) rfl b2 c2 fun s1 h H => ?_
          refine ⟨ldAt H 4 rfl X.sb rfl rfl, ldAt H 4 rfl X.st rfl rfl, ?_⟩
          refine app1B (E := eI) TI H 7 rfl 1 rfl (0) rfl b3 c3 fun s2 h H => ?_
          refine ⟨ldAt H 4 rfl X.st rfl rfl, ?_⟩
          refine app1B (E := eI) TI H 8 rfl 2 rfl (0) rfl b4 c4 fun s3 h H => ?_
          exact leafA (H.drop 4) rfl fun h H => ⟨s0, s1, s2, s3, H⟩
    · refine allocAt (cs := [.int .i64 (0)]) H fun h b H => ?_
      refine ⟨ldAt H 1 rfl X.sc rfl rfl, ldAt H 1 rfl X.sr rfl rfl, ldAt H 1 rfl X.sb rfl rfl, ldAt H 1 rfl X.st rfl rfl, ?_⟩
      refine ⟨?_, ?_, ?_⟩
      · refine allocAt (cs := [.int .i64 (0)]) H fun h b H => ?_
        refine ⟨ldAt H 2 rfl X.sc rfl rfl, ldAt H 2 rfl X.sr rfl rfl, ldAt H 2 rfl X.sb rfl rfl, ldAt H 2 rfl X.st rfl rfl, ?_⟩
        refine ⟨?_, ?_, ?_⟩
        · refine app1B (E := eI) TI H 3 rfl 0 rfl (0) rfl b1 c1 fun s0 h H => ?_
          refine ⟨ldAt H 2 rfl X.sr rfl rfl, ldAt H 2 rfl X.sb rfl rfl, ldAt H 2 rfl X.st rfl rfl, ?_⟩
          refine ⟨?_, ?_⟩
          · refine allocAt (cs := [.int .i64 (0)]) H fun h b H => ?_
            refine ⟨ldAt H 3 rfl X.sc rfl rfl, ldAt H 3 rfl X.sr rfl rfl, ldAt H 3 rfl X.sb rfl rfl, ldAt H 3 rfl X.st rfl rfl, ?_⟩
            refine ⟨?_, ?_⟩
            · refine app1B (E := eI) TI H 5 rfl 0 rfl (0) rfl b2 c2 fun s1 h H => ?_
              refine ⟨ldAt H 3 rfl X.sb rfl rfl, ldAt H 3 rfl X.st rfl rfl, ?_⟩
              refine ⟨?_, ?_⟩
              · refine app1B (E := eI) TI H 6 rfl 2 rfl (0) rfl b3 c3 fun s2 h H => ?_
                refine ⟨ldAt H 3 rfl X.st rfl rfl, ?_⟩
                refine allocAt (cs := [.int .i64 (0)]) H fun h b H => ?_
                refine ⟨ldAt H 4 rfl X.sc rfl rfl, ldAt H 4 rfl X.sr rfl rfl, ldAt H 4 rfl X.sb rfl rfl, ldAt H 4 rfl X.st rfl rfl, ?_⟩
                refine app1B (E := eI) TI H 8 rfl 0 rfl (0) rfl b4 c4 fun s3 h H => ?_
                exact leafA (H.drop 4) rfl fun h H => ⟨s0, s1, s2, s3, H⟩
              · refine allocAt (cs := [.int .i64 (0)]) H fun h b H => ?_
                refine ⟨ldAt H 4 rfl X.sc rfl rfl, ldAt H 4 rfl X.sr rfl rfl, ldAt H 4 rfl X.sb rfl rfl, ldAt H 4 rfl X.st rfl rfl, ?_⟩
                refine app1B (E := eI) TI H 7 rfl 3 rfl (0) rfl b3 c3 fun s2 h H => ?_
                refine ⟨ldAt H 4 rfl X.st rfl rfl, ?_⟩
                refine app1B (E := eI) TI H 8 rfl 0 rfl (0) rfl b4 c4 fun s3 h H => ?_
                exact leafA (H.drop 4) rfl fun h H => ⟨s0, s1, s2, s3, H⟩
            · refine allocAt (cs := [.int .i64 (0)]) H fun h b H => ?_
              refine ⟨ldAt H 4 rfl X.sc rfl rfl, ldAt H 4 rfl X.sr rfl rfl, ldAt H 4 rfl X.sb rfl rfl, ldAt H 4 rfl X.st rfl rfl, ?_⟩
              refine app1B (E := eI) TI H 6 rfl 1 rfl (0) rfl b2 c2 fun s1 h H => ?_
              refine ⟨ldAt H 4 rfl X.sb rfl rfl, ldAt H 4 rfl X.st rfl rfl, ?_⟩
              refine app1B (E := eI) TI H 7 rfl 3 rfl (0) rfl b3 c3 fun s2 h H => ?_
              refine ⟨ldAt H 4 rfl X.st rfl rfl, ?_⟩
              refine app1B (E := eI) TI H 8 rfl 0 rfl (0) rfl b4 c4 fun s3 h H => ?_
              exact leafA (H.drop 4) rfl fun h H => ⟨s0, s1, s2, s3, H⟩
          · refine allocAt (cs := [.int .i64 (0)]) H fun h b H => ?_
            refine ⟨ldAt H 3 rfl X.sc rfl rfl, ldAt H 3 rfl X.sr rfl rfl, ldAt H 3 rfl X.sb rfl rfl, ldAt H 3 rfl X.st rfl rfl, ?_⟩
            refine allocAt (cs := [.int .i64 (0)]) H fun h b H => ?_
            refine ⟨ldAt H 4 rfl X.sc rfl rfl, ldAt H 4 rfl X.sr rfl rfl, ldAt H 4 rfl X.sb rfl rfl, ldAt H 4 rfl X.st rfl rfl, ?_⟩
            refine app1B (E := eI) TI H 6 rfl 0 rfl (0) rfl b2 c2 fun s1 h H => ?_
            refine ⟨ldAt H 4 rfl X.sb rfl rfl, ldAt H 4 rfl X.st rfl rfl, ?_⟩
            refine app1B (E := eI) TI H 7 rfl 3 rfl (0) rfl b3 c3 fun s2 h H => ?_
            refine ⟨ldAt H 4 rfl X.st rfl rfl, ?_⟩
            refine app1B (E := eI) TI H 8 rfl 1 rfl (0) rfl b4 c4 fun s3 h H => ?_
            exact leafA (H.drop 4) rfl fun h H => ⟨s0, s1, s2, s3, H⟩
        · refine allocAt (cs := [.int .i64 (0)]) H fun h b H => ?_
          refine ⟨ldAt H 3 rfl X.sc rfl rfl, ldAt H 3 rfl X.sr rfl rfl, ldAt H 3 rfl X.sb rfl rfl, ldAt H 3 rfl X.st rfl rfl, ?_⟩
          refine ⟨?_, ?_⟩
          · refine app1B (E := eI) TI H 4 rfl 1 rfl (0) rfl b1 c1 fun s0 h H => ?_
            refine ⟨ldAt H 3 rfl X.sr rfl rfl, ldAt H 3 rfl X.sb rfl rfl, ldAt H 3 rfl X.st rfl rfl, ?_⟩
            refine ⟨?_, ?_⟩
            · refine app1B (E := eI) TI H 5 rfl 0 rfl (0) rfl b2 c2 fun s1 h H => ?_
              refine ⟨ldAt H 3 rfl X.sb rfl rfl, ldAt H 3 rfl X.st rfl rfl, ?_⟩
              refine ⟨?_, ?_⟩
              · refine app1B (E := eI) TI H 6 rfl 2 rfl (0) rfl b3 c3 fun s2 h H => ?_
                refine ⟨ldAt H 3 rfl X.st rfl rfl, ?_⟩
                refine allocAt (cs := [.int .i64 (0)]) H fun h b H => ?_
                refine ⟨ldAt H 4 rfl X.sc rfl rfl, ldAt H 4 rfl X.sr rfl rfl, ldAt H 4 rfl X.sb rfl rfl, ldAt H 4 rfl X.st rfl rfl, ?_⟩
                refine app1B (E := eI) TI H 8 rfl 0 rfl (0) rfl b4 c4 fun s3 h H => ?_
                exact leafA (H.drop 4) rfl fun h H => ⟨s0, s1, s2, s3, H⟩
              · refine allocAt (cs := [.int .i64 (0)]) H fun h b H => ?_
                refine ⟨ldAt H 4 rfl X.sc rfl rfl, ldAt H 4 rfl X.sr rfl rfl, ldAt H 4 rfl X.sb rfl rfl, ldAt H 4 rfl X.st rfl rfl, ?_⟩
                refine app1B (E := eI) TI H 7 rfl 3 rfl (0) rfl b3 c3 fun s2 h H => ?_
                refine ⟨ldAt H 4 rfl X.st rfl rfl, ?_⟩
                refine app1B (E := eI) TI H 8 rfl 0 rfl (0) rfl b4 c4 fun s3 h H => ?_
                exact leafA (H.drop 4) rfl fun h H => ⟨s0, s1, s2, s3, H⟩
            · refine allocAt (cs := [.int .i64 (0)]) H fun h b H => ?_
              refine ⟨ldAt H 4 rfl X.sc rfl rfl, ldAt H 4 rfl X.sr rfl rfl, ldAt H 4 rfl X.sb rfl rfl, ldAt H 4 rfl X.st rfl rfl, ?_⟩
              refine app1B (E := eI) TI H 6 rfl 1 rfl (0) rfl b2 c2 fun s1 h H => ?_
              refine ⟨ldAt H 4 rfl X.sb rfl rfl, ldAt H 4 rfl X.st rfl rfl, ?_⟩
              refine app1B (E := eI) TI H 7 rfl 3 rfl (0) rfl b3 c3 fun s2 h H => ?_
              refine ⟨ldAt H 4 rfl X.st rfl rfl, ?_⟩
              refine app1B (E := eI) TI H 8 rfl 0 rfl (0) rfl b4 c4 fun s3 h H => ?_
              exact leafA (H.drop 4) rfl fun h H => ⟨s0, s1, s2, s3, H⟩
          · refine allocAt (cs := [.int .i64 (0)]) H fun h b H => ?_
            refine ⟨ldAt H 4 rfl X.sc rfl rfl, ldAt H 4 rfl X.sr rfl rfl, ldAt H 4 rfl X.sb rfl rfl, ldAt H 4 rfl X.st rfl rfl, ?_⟩
            refine app1B (E := eI) TI H 5 rfl 2 rfl (0) rfl b1 c1 fun s0 h H => ?_
            refine ⟨ldAt H 4 rfl X.sr rfl rfl, ldAt H 4 rfl X.sb rfl rfl, ldAt H 4 rfl X.st rfl rfl, ?_⟩
            refine app1B (E := eI) TI H 6 rfl 1 rfl (0) rfl b2 c2 fun s1 h H => ?_
            refine ⟨ldAt H 4 rfl X.sb rfl rfl, ldAt H 4 rfl X.st rfl rfl, ?_⟩
            refine app1B (E := eI) TI H 7 rfl 3 rfl (0) rfl b3 c3 fun s2 h H => ?_
            refine ⟨ldAt H 4 rfl X.st rfl rfl, ?_⟩
            refine app1B (E := eI) TI H 8 rfl 0 rfl (0) rfl b4 c4 fun s3 h H => ?_
            exact leafA (H.drop 4) rfl fun h H => ⟨s0, s1, s2, s3, H⟩
        · refine allocAt (cs := [.int .i64 (0)]) H fun h b H => ?_
          refine ⟨ldAt H 3 rfl X.sc rfl rfl, ldAt H 3 rfl X.sr rfl rfl, ldAt H 3 rfl X.sb rfl rfl, ldAt H 3 rfl X.st rfl rfl, ?_⟩
          refine ⟨?_, ?_⟩
          · refine app1B (E := eI) TI H 4 rfl 1 rfl (0) rfl b1 c1 fun s0 h H => ?_
            refine ⟨ldAt H 3 rfl X.sr rfl rfl, ldAt H 3 rfl X.sb rfl rfl, ldAt H 3 rfl X.st rfl rfl, ?_⟩
            refine allocAt (cs := [.int .i64 (0)]) H fun h b H => ?_
            refine ⟨ldAt H 4 rfl X.sc rfl rfl, ldAt H 4 rfl X.sr rfl rfl, ldAt H 4 rfl X.sb rfl rfl, ldAt H 4 rfl X.st rfl rfl, ?_⟩
            refine app1B (E := eI) TI H 6 rfl 0 rfl (0) rfl b2 c2 fun s1 h H => ?_
            refine ⟨ldAt H 4 rfl X.sb rfl rfl, ldAt H 4 rfl X.st rfl rfl, ?_⟩
            refine app1B (E := eI) TI H 7 rfl 3 rfl (0) rfl b3 c3 fun s2 h H => ?_
            refine ⟨ldAt H 4 rfl X.st rfl rfl, ?_⟩
            refine app1B (E := eI) TI H 8 rfl 1 rfl (0) rfl b4 c4 fun s3 h H => ?_
            exact leafA (H.drop 4) rfl fun h H => ⟨s0, s1, s2, s3, H⟩
          · refine allocAt (cs := [.int .i64 (0)]) H fun h b H => ?_
            refine ⟨ldAt H 4 rfl X.sc rfl rfl, ldAt H 4 rfl X.sr rfl rfl, ldAt H 4 rfl X.sb rfl rfl, ldAt H 4 rfl X.st rfl rfl, ?_⟩
            refine app1B (E := eI) TI H 5 rfl 2 rfl (0) rfl b1 c1 fun s0 h H => ?_
            refine ⟨ldAt H 4 rfl X.sr rfl rfl, ldAt H 4 rfl X.sb rfl rfl, ldAt H 4 rfl X.st rfl rfl, ?_⟩
            refine app1B (E := eI) TI H 6 rfl 0 rfl (0) rfl b2 c2 fun s1 h H => ?_
            refine ⟨ldAt H 4 rfl X.sb rfl rfl, ldAt H 4 rfl X.st rfl rfl, ?_⟩
            refine app1B (E := eI) TI H 7 rfl 3 rfl (0) rfl b3 c3 fun s2 h H => ?_
            refine ⟨ldAt H 4 rfl X.st rfl rfl, ?_⟩
            refine app1B (E := eI) TI H 8 rfl 1 rfl (0) rfl b4 c4 fun s3 h H => ?_
            exact leafA (H.drop 4) rfl fun h H => ⟨s0, s1, s2, s3, H⟩
      · refine allocAt (cs := [.int .i64 (0)]) H fun h b H => ?_
        refine ⟨ldAt H 2 rfl X.sc rfl rfl, ldAt H 2 rfl X.sr rfl rfl, ldAt H 2 rfl X.sb rfl rfl, ldAt H 2 rfl X.st rfl rfl, ?_⟩
        refine ⟨?_, ?_⟩
        · refine allocAt (cs := [.int .i64 (0)]) H fun h b H => ?_
          refine ⟨ldAt H 3 rfl X.sc rfl rfl, ldAt H 3 rfl X.sr rfl rfl, ldAt H 3 rfl X.sb rfl rfl, ldAt H 3 rfl X.st rfl rfl, ?_⟩
          refine ⟨?_, ?_⟩
          · refine app1B (E := eI) TI H 4 rfl 0 rfl (0) rfl b1 c1 fun s0 h H => ?_
            refine ⟨ldAt H 3 rfl X.sr rfl rfl, ldAt H 3 rfl X.sb rfl rfl, ldAt H 3 rfl X.st rfl rfl, ?_⟩
            refine ⟨?_, ?_⟩
            · refine app1B (E := eI) TI H 5 rfl 1 rfl (0) rfl b2 c2 fun s1 h H => ?_
              refine ⟨ldAt H 3 rfl X.sb rfl rfl, ldAt H 3 rfl X.st rfl rfl, ?_⟩
              refine ⟨?_, ?_⟩
              · refine app1B (E := eI) TI H 6 rfl 2 rfl (0) rfl b3 c3 fun s2 h H => ?_
                refine ⟨ldAt H 3 rfl X.st rfl rfl, ?_⟩
                refine allocAt (cs := [.int .i64 (0)]) H fun h b H => ?_
                refine ⟨ldAt H 4 rfl X.sc rfl rfl, ldAt H 4 rfl X.sr rfl rfl, ldAt H 4 rfl X.sb rfl rfl, ldAt H 4 rfl X.st rfl rfl, ?_⟩
                refine app1B (E := eI) TI H 8 rfl 0 rfl (0) rfl b4 c4 fun s3 h H => ?_
                exact leafA (H.drop 4) rfl fun h H => ⟨s0, s1, s2, s3, H⟩
              · refine allocAt (cs := [.int .i64 (0)]) H fun h b H => ?_
                refine ⟨ldAt H 4 rfl X.sc rfl rfl, ldAt H 4 rfl X.sr rfl rfl, ldAt H 4 rfl X.sb rfl rfl, ldAt H 4 rfl X.st rfl rfl, ?_⟩
                refine app1B (E := eI) TI H 7 rfl 3 rfl (0) rfl b3 c3 fun s2 h H => ?_
                refine ⟨ldAt H 4 rfl X.st rfl rfl, ?_⟩
                refine app1B (E := eI) TI H 8 rfl 0 rfl (0) rfl b4 c4 fun s3 h H => ?_
                exact leafA (H.drop 4) rfl fun h H => ⟨s0, s1, s2, s3, H⟩
            · refine allocAt (cs := [.int .i64 (0)]) H fun h b H => ?_
              refine ⟨ldAt H 4 rfl X.sc rfl rfl, ldAt H 4 rfl X.sr rfl rfl, ldAt H 4 rfl X.sb rfl rfl, ldAt H 4 rfl X.st rfl rfl, ?_⟩
              refine app1B (E := eI) TI H 6 rfl 2 rfl (0) rfl b2 c2 fun s1 h H => ?_
              refine ⟨ldAt H 4 rfl X.sb rfl rfl, ldAt H 4 rfl X.st rfl rfl, ?_⟩
              refine app1B (E := eI) TI H 7 rfl 3 rfl (0) rfl b3 c3 fun s2 h H => ?_
              refine ⟨ldAt H 4 rfl X.st rfl rfl, ?_⟩
              refine app1B (E := eI) TI H 8 rfl 0 rfl (0) rfl b4 c4 fun s3 h H => ?_
              exact leafA (H.drop 4) rfl fun h H => ⟨s0, s1, s2, s3, H⟩
          · refine allocAt (cs := [.int .i64 (0)]) H fun h b H => ?_
            refine ⟨ldAt H 4 rfl X.sc rfl rfl, ldAt H 4 rfl X.sr rfl rfl, ldAt H 4 rfl X.sb rfl rfl, ldAt H 4 rfl X.st rfl rfl, ?_⟩
            refine app1B (E := eI) TI H 5 rfl 1 rfl (0) rfl b1 c1 fun s0 h H => ?_
            refine ⟨ldAt H 4 rfl X.sr rfl rfl, ldAt H 4 rfl X.sb rfl rfl, ldAt H 4 rfl X.st rfl rfl, ?_⟩
            refine app1B (E := eI) TI H 6 rfl 2 rfl (0) rfl b2 c2 fun s1 h H => ?_
            refine ⟨ldAt H 4 rfl X.sb rfl rfl, ldAt H 4 rfl X.st rfl rfl, ?_⟩
            refine app1B (E := eI) TI H 7 rfl 3 rfl (0) rfl b3 c3 fun s2 h H => ?_
            refine ⟨ldAt H 4 rfl X.st rfl rfl, ?_⟩
            refine app1B (E := eI) TI H 8 rfl 0 rfl (0) rfl b4 c4 fun s3 h H => ?_
            exact leafA (H.drop 4) rfl fun h H => ⟨s0, s1, s2, s3, H⟩
        · refine allocAt (cs := [.int .i64 (0)]) H fun h b H => ?_
          refine ⟨ldAt H 3 rfl X.sc rfl rfl, ldAt H 3 rfl X.sr rfl rfl, ldAt H 3 rfl X.sb rfl rfl, ldAt H 3 rfl X.st rfl rfl, ?_⟩
          refine allocAt (cs := [.int .i64 (0)]) H fun h b H => ?_
          refine ⟨ldAt H 4 rfl X.sc rfl rfl, ldAt H 4 rfl X.sr rfl rfl, ldAt H 4 rfl X.sb rfl rfl, ldAt H 4 rfl X.st rfl rfl, ?_⟩
          refine app1B (E := eI) TI H 5 rfl 0 rfl (0) rfl b1 c1 fun s0 h H => ?_
          refine ⟨ldAt H 4 rfl X.sr rfl rfl, ldAt H 4 rfl X.sb rfl rfl, ldAt H 4 rfl X.st rfl rfl, ?_⟩
          refine app1B (E := eI) TI H 6 rfl 2 rfl (0) rfl b2 c2 fun s1 h H => ?_
          refine ⟨ldAt H 4 rfl X.sb rfl rfl, ldAt H 4 rfl X.st rfl rfl, ?_⟩
          refine app1B (E := eI) TI H 7 rfl 3 rfl (0) rfl b3 c3 fun s2 h H => ?_
          refine ⟨ldAt H 4 rfl X.st rfl rfl, ?_⟩
          refine app1B (E := eI) TI H 8 rfl 1 rfl (0) rfl b4 c4 fun s3 h H => ?_
          exact leafA (H.drop 4) rfl fun h H => ⟨s0, s1, s2, s3, H⟩
      · refine allocAt (cs := [.int .i64 (0)]) H fun h b H => ?_
        refine ⟨ldAt H 2 rfl X.sc rfl rfl, ldAt H 2 rfl X.sr rfl rfl, ldAt H 2 rfl X.sb rfl rfl, ldAt H 2 rfl X.st rfl rfl, ?_⟩
        refine ⟨?_, ?_⟩
        · refine allocAt (cs := [.int .i64 (0)]) H fun h b H => ?_
          refine ⟨ldAt H 3 rfl X.sc rfl rfl, ldAt H 3 rfl X.sr rfl rfl, ldAt H 3 rfl X.sb rfl rfl, ldAt H 3 rfl X.st rfl rfl, ?_⟩
          refine ⟨?_, ?_⟩
          · refine app1B (E := eI) TI H 4 rfl 0 rfl (0) rfl b1 c1 fun s0 h H => ?_
            refine ⟨ldAt H 3 rfl X.sr rfl rfl, ldAt H 3 rfl X.sb rfl rfl, ldAt H 3 rfl X.st rfl rfl, ?_⟩
            refine allocAt (cs := [.int .i64 (0)]) H fun h b H => ?_
            refine ⟨ldAt H 4 rfl X.sc rfl rfl, ldAt H 4 rfl X.sr rfl rfl, ldAt H 4 rfl X.sb rfl rfl, ldAt H 4 rfl X.st rfl rfl, ?_⟩
            refine app1B (E := eI) TI H 6 rfl 0 rfl (0) rfl b2 c2 fun s1 h H => ?_
            refine ⟨ldAt H 4 rfl X.sb rfl rfl, ldAt H 4 rfl X.st rfl rfl, ?_⟩
            refine app1B (E := eI) TI H 7 rfl 3 rfl (0) rfl b3 c3 fun s2 h H => ?_
            refine ⟨ldAt H 4 rfl X.st rfl rfl, ?_⟩
            refine app1B (E := eI) TI H 8 rfl 2 rfl (0) rfl b4 c4 fun s3 h H => ?_
            exact leafA (H.drop 4) rfl fun h H => ⟨s0, s1, s2, s3, H⟩
          · refine allocAt (cs := [.int .i64 (0)]) H fun h b H => ?_
            refine ⟨ldAt H 4 rfl X.sc rfl rfl, ldAt H 4 rfl X.sr rfl rfl, ldAt H 4 rfl X.sb rfl rfl, ldAt H 4 rfl X.st rfl rfl, ?_⟩
            refine app1B (E := eI) TI H 5 rfl 1 rfl (0) rfl b1 c1 fun s0 h H => ?_
            refine ⟨ldAt H 4 rfl X.sr rfl rfl, ldAt H 4 rfl X.sb rfl rfl, ldAt H 4 rfl X.st rfl rfl, ?_⟩
            refine app1B (E := eI) TI H 6 rfl 0 rfl (0) rfl b2 c2 fun s1 h H => ?_
            refine ⟨ldAt H 4 rfl X.sb rfl rfl, ldAt H 4 rfl X.st rfl rfl, ?_⟩
            refine app1B (E := eI) TI H 7 rfl 3 rfl (0) rfl b3 c3 fun s2 h H => ?_
            refine ⟨ldAt H 4 rfl X.st rfl rfl, ?_⟩
            refine app1B (E := eI) TI H 8 rfl 2 rfl (0) rfl b4 c4 fun s3 h H => ?_
            exact leafA (H.drop 4) rfl fun h H => ⟨s0, s1, s2, s3, H⟩
        · refine allocAt (cs := [.int .i64 (0)]) H fun h b H => ?_
          refine ⟨ldAt H 3 rfl X.sc rfl rfl, ldAt H 3 rfl X.sr rfl rfl, ldAt H 3 rfl X.sb rfl rfl, ldAt H 3 rfl X.st rfl rfl, ?_⟩
          refine allocAt (cs := [.int .i64 (0)]) H fun h b H => ?_
          refine ⟨ldAt H 4 rfl X.sc rfl rfl, ldAt H 4 rfl X.sr rfl rfl, ldAt H 4 rfl X.sb rfl rfl, ldAt H 4 rfl X.st rfl rfl, ?_⟩
          refine app1B (E := eI) TI H 5 rfl 0 rfl (0) rfl b1 c1 fun s0 h H => ?_
          refine ⟨ldAt H 4 rfl X.sr rfl rfl, ldAt H 4 rfl X.sb rfl rfl, ldAt H 4 rfl X.st rfl rfl, ?_⟩
          refine app1B (E := eI) TI H 6 rfl 1 rfl (0) rfl b2 c2 fun s1 h H => ?_
          refine ⟨ldAt H 4 rfl X.sb rfl rfl, ldAt H 4 rfl X.st rfl rfl, ?_⟩
          refine app1B (E := eI) TI H 7 rfl 3 rfl (0) rfl b3 c3 fun s2 h H => ?_
          refine ⟨ldAt H 4 rfl X.st rfl rfl, ?_⟩
          refine app1B (E := eI) TI H 8 rfl 2 rfl (0) rfl b4 c4 fun s3 h H => ?_
          exact leafA (H.drop 4) rfl fun h H => ⟨s0, s1, s2, s3, H⟩
    · refine allocAt (cs := [.int .i64 (0)]) H fun h b H => ?_
      refine ⟨ldAt H 1 rfl X.sc rfl rfl, ldAt H 1 rfl X.sr rfl rfl, ldAt H 1 rfl X.sb rfl rfl, ldAt H 1 rfl X.st rfl rfl, ?_⟩
      refine ⟨?_, ?_, ?_⟩
      · refine allocAt (cs := [.int .i64 (0)]) H fun h b H => ?_
        refine ⟨ldAt H 2 rfl X.sc rfl rfl, ldAt H 2 rfl X.sr rfl rfl, ldAt H 2 rfl X.sb rfl rfl, ldAt H 2 rfl X.st rfl rfl, ?_⟩
        refine ⟨?_, ?_, ?_⟩
        · refine app1B (E := eI) TI H 3 rfl 0 rfl (0) rfl b1 c1 fun s0 h H => ?_
          refine ⟨ldAt H 2 rfl X.sr rfl rfl, ldAt H 2 rfl X.sb rfl rfl, ldAt H 2 rfl X.st rfl rfl, ?_⟩
          refine ⟨?_, ?_⟩
          · refine allocAt (cs := [.int .i64 (0)]) H fun h b H => ?_
            refine ⟨ldAt H 3 rfl X.sc rfl rfl, ldAt H 3 rfl X.sr rfl rfl, ldAt H 3 rfl X.sb rfl rfl, ldAt H 3 rfl X.st rfl rfl, ?_⟩
            refine ⟨?_, ?_⟩
            · refine app1B (E := eI) TI H 5 rfl 0 rfl (0) rfl b2 c2 fun s1 h H => ?_
              refine ⟨ldAt H 3 rfl X.sb rfl rfl, ldAt H 3 rfl X.st rfl rfl, ?_⟩
              refine allocAt (cs := [.int .i64 (0)]) H fun h b H => ?_
              refine ⟨ldAt H 4 rfl X.sc rfl rfl, ldAt H 4 rfl X.sr rfl rfl, ldAt H 4 rfl X.sb rfl rfl, ldAt H 4 rfl X.st rfl rfl, ?_⟩
              refine app1B (E := eI) TI H 7 rfl 0 rfl (0) rfl b3 c3 fun s2 h H => ?_
              refine ⟨ldAt H 4 rfl X.st rfl rfl, ?_⟩
              refine app1B (E := eI) TI H 8 rfl 3 rfl (0) rfl b4 c4 fun s3 h H => ?_
              exact leafA (H.drop 4) rfl fun h H => ⟨s0, s1, s2, s3, H⟩
            · refine allocAt (cs := [.int .i64 (0)]) H fun h b H => ?_
              refine ⟨ldAt H 4 rfl X.sc rfl rfl, ldAt H 4 rfl X.sr rfl rfl, ldAt H 4 rfl X.sb rfl rfl, ldAt H 4 rfl X.st rfl rfl, ?_⟩
              refine app1B (E := eI) TI H 6 rfl 1 rfl (0) rfl b2 c2 fun s1 h H => ?_
              refine ⟨ldAt H 4 rfl X.sb rfl rfl, ldAt H 4 rfl X.st rfl rfl, ?_⟩
              refine app1B (E := eI) TI H 7 rfl 0 rfl (0) rfl b3 c3 fun s2 h H => ?_
              refine ⟨ldAt H 4 rfl X.st rfl rfl, ?_⟩
              refine app1B (E := eI) TI H 8 rfl 3 rfl (0) rfl b4 c4 fun s3 h H => ?_
              exact leafA (H.drop 4) rfl fun h H => ⟨s0, s1, s2, s3, H⟩
          · refine allocAt (cs := [.int .i64 (0)]) H fun h b H => ?_
            refine ⟨ldAt H 3 rfl X.sc rfl rfl, ldAt H 3 rfl X.sr rfl rfl, ldAt H 3 rfl X.sb rfl rfl, ldAt H 3 rfl X.st rfl rfl, ?_⟩
            refine allocAt (cs := [.int .i64 (0)]) H fun h b H => ?_
            refine ⟨ldAt H 4 rfl X.sc rfl rfl, ldAt H 4 rfl X.sr rfl rfl, ldAt H 4 rfl X.sb rfl rfl, ldAt H 4 rfl X.st rfl rfl, ?_⟩
            refine app1B (E := eI) TI H 6 rfl 0 rfl (0) rfl b2 c2 fun s1 h H => ?_
            refine ⟨ldAt H 4 rfl X.sb rfl rfl, ldAt H 4 rfl X.st rfl rfl, ?_⟩
            refine app1B (E := eI) TI H 7 rfl 1 rfl (0) rfl b3 c3 fun s2 h H => ?_
            refine ⟨ldAt H 4 rfl X.st rfl rfl, ?_⟩
            refine app1B (E := eI) TI H 8 rfl 3 rfl (0) rfl b4 c4 fun s3 h H => ?_
            exact leafA (H.drop 4) rfl fun h H => ⟨s0, s1, s2, s3, H⟩
        · refine allocAt (cs := [.int .i64 (0)]) H fun h b H => ?_
          refine ⟨ldAt H 3 rfl X.sc rfl rfl, ldAt H 3 rfl X.sr rfl rfl, ldAt H 3 rfl X.sb rfl rfl, ldAt H 3 rfl X.st rfl rfl, ?_⟩
          refine ⟨?_, ?_⟩
          · refine app1B (E := eI) TI H 4 rfl 1 rfl (0) rfl b1 c1 fun s0 h H => ?_
            refine ⟨ldAt H 3 rfl X.sr rfl rfl, ldAt H 3 rfl X.sb rfl rfl, ldAt H 3 rfl X.st rfl rfl, ?_⟩
            refine ⟨?_, ?_⟩
            · refine app1B (E := eI) TI H 5 rfl 0 rfl (0) rfl b2 c2 fun s1 h H => ?_
              refine ⟨ldAt H 3 rfl X.sb rfl rfl, ldAt H 3 rfl X.st rfl rfl, ?_⟩
              refine allocAt (cs := [.int .i64 (0)]) H fun h b H => ?_
              refine ⟨ldAt H 4 rfl X.sc rfl rfl, ldAt H 4 rfl X.sr rfl rfl, ldAt H 4 rfl X.sb rfl rfl, ldAt H 4 rfl X.st rfl rfl, ?_⟩
              refine app1B (E := eI) TI H 7 rfl 0 rfl (0) rfl b3 c3 fun s2 h H => ?_
              refine ⟨ldAt H 4 rfl X.st rfl rfl, ?_⟩
              refine app1B (E := eI) TI H 8 rfl 3 rfl (0) rfl b4 c4 fun s3 h H => ?_
              exact leafA (H.drop 4) rfl fun h H => ⟨s0, s1, s2, s3, H⟩
            · refine allocAt (cs := [.int .i64 (0)]) H fun h b H => ?_
              refine ⟨ldAt H 4 rfl X.sc rfl rfl, ldAt H 4 rfl X.sr rfl rfl, ldAt H 4 rfl X.sb rfl rfl, ldAt H 4 rfl X.st rfl rfl, ?_⟩
              refine app1B (E := eI) TI H 6 rfl 1 rfl (0) rfl b2 c2 fun s1 h H => ?_
              refine ⟨ldAt H 4 rfl X.sb rfl rfl, ldAt H 4 rfl X.st rfl rfl, ?_⟩
              refine app1B (E := eI) TI H 7 rfl 0 rfl (0) rfl b3 c3 fun s2 h H => ?_
              refine ⟨ldAt H 4 rfl X.st rfl rfl, ?_⟩
              refine app1B (E := eI) TI H 8 rfl 3 rfl (0) rfl b4 c4 fun s3 h H => ?_
              exact leafA (H.drop 4) rfl fun h H => ⟨s0, s1, s2, s3, H⟩
          · refine allocAt (cs := [.int .i64 (0)]) H fun h b H => ?_
            refine ⟨ldAt H 4 rfl X.sc rfl rfl, ldAt H 4 rfl X.sr rfl rfl, ldAt H 4 rfl X.sb rfl rfl, ldAt H 4 rfl X.st rfl rfl, ?_⟩
            refine app1B (E := eI) TI H 5 rfl 2 rfl (0) rfl b1 c1 fun s0 h H => ?_
            refine ⟨ldAt H 4 rfl X.sr rfl rfl, ldAt H 4 rfl X.sb rfl rfl, ldAt H 4 rfl X.st rfl rfl, ?_⟩
            refine app1B (E := eI) TI H 6 rfl 1 rfl (0) rfl b2 c2 fun s1 h H => ?_
            refine ⟨ldAt H 4 rfl X.sb rfl rfl, ldAt H 4 rfl X.st rfl rfl, ?_⟩
            refine app1B (E := eI) TI H 7 rfl 0 rfl (0) rfl b3 c3 fun s2 h H => ?_
            refine ⟨ldAt H 4 rfl X.st rfl rfl, ?_⟩
            refine app1B (E := eI) TI H 8 rfl 3 rfl (0) rfl b4 c4 fun s3 h H => ?_
            exact leafA (H.drop 4) rfl fun h H => ⟨s0, s1, s2, s3, H⟩
        · refine allocAt (cs := [.int .i64 (0)]) H fun h b H => ?_
          refine ⟨ldAt H 3 rfl X.sc rfl rfl, ldAt H 3 rfl X.sr rfl rfl, ldAt H 3 rfl X.sb rfl rfl, ldAt H 3 rfl X.st rfl rfl, ?_⟩
          refine ⟨?_, ?_⟩
          · refine app1B (E := eI) TI H 4 rfl 1 rfl (0) rfl b1 c1 fun s0 h H => ?_
            refine ⟨ldAt H 3 rfl X.sr rfl rfl, ldAt H 3 rfl X.sb rfl rfl, ldAt H 3 rfl X.st rfl rfl, ?_⟩
            refine allocAt (cs := [.int .i64 (0)]) H fun h b H => ?_
            refine ⟨ldAt H 4 rfl X.sc rfl rfl, ldAt H 4 rfl X.sr rfl rfl, ldAt H 4 rfl X.sb rfl rfl, ldAt H 4 rfl X.st rfl rfl, ?_⟩
            refine app1B (E := eI) TI H 6 rfl 0 rfl (0) rfl b2 c2 fun s1 h H => ?_
            refine ⟨ldAt H 4 rfl X.sb rfl rfl, ldAt H 4 rfl X.st rfl rfl, ?_⟩
            refine app1B (E := eI) TI H 7 rfl 1 rfl (0) rfl b3 c3 fun s2 h H => ?_
            refine ⟨ldAt H 4 rfl X.st rfl rfl, ?_⟩
            refine app1B (E := eI) TI H 8 rfl 3 rfl (0) rfl b4 c4 fun s3 h H => ?_
            exact leafA (H.drop 4) rfl fun h H => ⟨s0, s1, s2, s3, H⟩
          · refine allocAt (cs := [.int .i64 (0)]) H fun h b H => ?_
            refine ⟨ldAt H 4 rfl X.sc rfl rfl, ldAt H 4 rfl X.sr rfl rfl, ldAt H 4 rfl X.sb rfl rfl, ldAt H 4 rfl X.st rfl rfl, ?_⟩
            refine app1B (E := eI) TI H 5 rfl 2 rfl (0) rfl b1 c1 fun s0 h H => ?_
            refine ⟨ldAt H 4 rfl X.sr rfl rfl, ldAt H 4 rfl X.sb rfl rfl, ldAt H 4 rfl X.st rfl rfl, ?_⟩
            refine app1B (E := eI) TI H 6 rfl 0 rfl (0) rfl b2 c2 fun s1 h H => ?_
            refine ⟨ldAt H 4 rfl X.sb rfl rfl, ldAt H 4 rfl X.st rfl rfl, ?_⟩
            refine app1B (E := eI) TI H 7 rfl 1 rfl (0) rfl b3 c3 fun s2 h H => ?_
            refine ⟨ldAt H 4 rfl X.st rfl rfl, ?_⟩
            refine app1B (E := eI) TI H 8 rfl 3 rfl (0) rfl b4 c4 fun s3 h H => ?_
            exact leafA (H.drop 4) rfl fun h H => ⟨s0, s1, s2, s3, H⟩
      · refine allocAt (cs := [.int .i64 (0)]) H fun h b H => ?_
        refine ⟨ldAt H 2 rfl X.sc rfl rfl, ldAt H 2 rfl X.sr rfl rfl, ldAt H 2 rfl X.sb rfl rfl, ldAt H 2 rfl X.st rfl rfl, ?_⟩
        refine ⟨?_, ?_⟩
        · refine allocAt (cs := [.int .i64 (0)]) H fun h b H => ?_
          refine ⟨ldAt H 3 rfl X.sc rfl rfl, ldAt H 3 rfl X.sr rfl rfl, ldAt H 3 rfl X.sb rfl rfl, ldAt H 3 rfl X.st rfl rfl, ?_⟩
          refine ⟨?_, ?_⟩
          · refine app1B (E := eI) TI H 4 rfl 0 rfl (0) rfl b1 c1 fun s0 h H => ?_
            refine ⟨ldAt H 3 rfl X.sr rfl rfl, ldAt H 3 rfl X.sb rfl rfl, ldAt H 3 rfl X.st rfl rfl, ?_⟩
            refine ⟨?_, ?_⟩
            · refine app1B (E := eI) TI H 5 rfl 1 rfl (0) rfl b2 c2 fun s1 h H => ?_
              refine ⟨ldAt H 3 rfl X.sb rfl rfl, ldAt H 3 rfl X.st rfl rfl, ?_⟩
              refine allocAt (cs := [.int .i64 (0)]) H fun h b H => ?_
              refine ⟨ldAt H 4 rfl X.sc rfl rfl, ldAt H 4 rfl X.sr rfl rfl, ldAt H 4 rfl X.sb rfl rfl, ldAt H 4 rfl X.st rfl rfl, ?_⟩
              refine app1B (E := eI) TI H 7 rfl 0 rfl (0) rfl b3 c3 fun s2 h H => ?_
              refine ⟨ldAt H 4 rfl X.st rfl rfl, ?_⟩
              refine app1B (E := eI) TI H 8 rfl 3 rfl (0) rfl b4 c4 fun s3 h H => ?_
              exact leafA (H.drop 4) rfl fun h H => ⟨s0, s1, s2, s3, H⟩
            · refine allocAt (cs := [.int .i64 (0)]) H fun h b H => ?_
              refine ⟨ldAt H 4 rfl X.sc rfl rfl, ldAt H 4 rfl X.sr rfl rfl, ldAt H 4 rfl X.sb rfl rfl, ldAt H 4 rfl X.st rfl rfl, ?_⟩
              refine app1B (E := eI) TI H 6 rfl 2 rfl (0) rfl b2 c2 fun s1 h H => ?_
              refine ⟨ldAt H 4 rfl X.sb rfl rfl, ldAt H 4 rfl X.st rfl rfl, ?_⟩
              refine app1B (E := eI) TI H 7 rfl 0 rfl (0) rfl b3 c3 fun s2 h H => ?_
              refine ⟨ldAt H 4 rfl X.st rfl rfl, ?_⟩
              refine app1B (E := eI) TI H 8 rfl 3 rfl (0) rfl b4 c4 fun s3 h H => ?_
              exact leafA (H.drop 4) rfl fun h H => ⟨s0, s1, s2, s3, H⟩
          · refine allocAt (cs := [.int .i64 (0)]) H fun h b H => ?_
            refine ⟨ldAt H 4 rfl X.sc rfl rfl, ldAt H 4 rfl X.sr rfl rfl, ldAt H 4 rfl X.sb rfl rfl, ldAt H 4 rfl X.st rfl rfl, ?_⟩
            refine app1B (E := eI) TI H 5 rfl 1 rfl (0) rfl b1 c1 fun s0 h H => ?_
            refine ⟨ldAt H 4 rfl X.sr rfl rfl, ldAt H 4 rfl X.sb rfl rfl, ldAt H 4 rfl X.st rfl rfl, ?_⟩
            refine app1B (E := eI) TI H 6 rfl 2 rfl (0) rfl b2 c2 fun s1 h H => ?_
            refine ⟨ldAt H 4 rfl X.sb rfl rfl, ldAt H 4 rfl X.st rfl rfl, ?_⟩
            refine app1B (E := eI) TI H 7 rfl 0 rfl (0) rfl b3 c3 fun s2 h H => ?_
            refine ⟨ldAt H 4 rfl X.st rfl rfl, ?_⟩
            refine app1B (E := eI) TI H 8 rfl 3 rfl (0) rfl b4 c4 fun s3 h H => ?_
            exact leafA (H.drop 4) rfl fun h H => ⟨s0, s1, s2, s3, H⟩
        · refine allocAt (cs := [.int .i64 (0)]) H fun h b H => ?_
          refine ⟨ldAt H 3 rfl X.sc rfl rfl, ldAt H 3 rfl X.sr rfl rfl, ldAt H 3 rfl X.sb rfl rfl, ldAt H 3 rfl X.st rfl rfl, ?_⟩
          refine allocAt (cs := [.int .i64 (0)]) H fun h b H => ?_
          refine ⟨ldAt H 4 rfl X.sc rfl rfl, ldAt H 4 rfl X.sr rfl rfl, ldAt H 4 rfl X.sb rfl rfl, ldAt H 4 rfl X.st rfl rfl, ?_⟩
          refine app1B (E := eI) TI H 5 rfl 0 rfl (0) rfl b1 c1 fun s0 h H => ?_
          refine ⟨ldAt H 4 rfl X.sr rfl rfl, ldAt H 4 rfl X.sb rfl rfl, ldAt H 4 rfl X.st rfl rfl, ?_⟩
          refine app1B (E := eI) TI H 6 rfl 2 rfl (0) rfl b2 c2 fun s1 h H => ?_
          refine ⟨ldAt H 4 rfl X.sb rfl rfl, ldAt H 4 rfl X.st rfl rfl, ?_⟩
          refine app1B (E := eI) TI H 7 rfl 1 rfl (0) rfl b3 c3 fun s2 h H => ?_
          refine ⟨ldAt H 4 rfl X.st rfl rfl, ?_⟩
          refine app1B (E := eI) TI H 8 rfl 3 rfl (0) rfl b4 c4 fun s3 h H => ?_
          exact leafA (H.drop 4) rfl fun h H => ⟨s0, s1, s2, s3, H⟩
      · refine allocAt (cs := [.int .i64 (0)]) H fun h b H => ?_
        refine ⟨ldAt H 2 rfl X.sc rfl rfl, ldAt H 2 rfl X.sr rfl rfl, ldAt H 2 rfl X.sb rfl rfl, ldAt H 2 rfl X.st rfl rfl, ?_⟩
        refine ⟨?_, ?_⟩
        · refine allocAt (cs := [.int .i64 (0)]) H fun h b H => ?_
          refine ⟨ldAt H 3 rfl X.sc rfl rfl, ldAt H 3 rfl X.sr rfl rfl, ldAt H 3 rfl X.sb rfl rfl, ldAt H 3 rfl X.st rfl rfl, ?_⟩
          refine ⟨?_, ?_⟩
          · refine app1B (E := eI) TI H 4 rfl 0 rfl (0) rfl b1 c1 fun s0 h H => ?_
            refine ⟨ldAt H 3 rfl X.sr rfl rfl, ldAt H 3 rfl X.sb rfl rfl, ldAt H 3 rfl X.st rfl rfl, ?_⟩
            refine allocAt (cs := [.int .i64 (0)]) H fun h b H => ?_
            refine ⟨ldAt H 4 rfl X.sc rfl rfl, ldAt H 4 rfl X.sr rfl rfl, ldAt H 4 rfl X.sb rfl rfl, ldAt H 4 rfl X.st rfl rfl, ?_⟩
            refine app1B (E := eI) TI H 6 rfl 0 rfl (0) rfl b2 c2 fun s1 h H => ?_
            refine ⟨ldAt H 4 rfl X.sb rfl rfl, ldAt H 4 rfl X.st rfl rfl, ?_⟩
            refine app1B (E := eI) TI H 7 rfl 2 rfl (0) rfl b3 c3 fun s2 h H => ?_
            refine ⟨ldAt H 4 rfl X.st rfl rfl, ?_⟩
            refine app1B (E := eI) TI H 8 rfl 3 rfl (0) rfl b4 c4 fun s3 h H => ?_
            exact leafA (H.drop 4) rfl fun h H => ⟨s0, s1, s2, s3, H⟩
          · refine allocAt (cs := [.int .i64 (0)]) H fun h b H => ?_
            refine ⟨ldAt H 4 rfl X.sc rfl rfl, ldAt H 4 rfl X.sr rfl rfl, ldAt H 4 rfl X.sb rfl rfl, ldAt H 4 rfl X.st rfl rfl, ?_⟩
            refine app1B (E := eI) TI H 5 rfl 1 rfl (0) rfl b1 c1 fun s0 h H => ?_
            refine ⟨ldAt H 4 rfl X.sr rfl rfl, ldAt H 4 rfl X.sb rfl rfl, ldAt H 4 rfl X.st rfl rfl, ?_⟩
            refine app1B (E := eI) TI H 6 rfl 0 rfl (0) rfl b2 c2 fun s1 h H => ?_
            refine ⟨ldAt H 4 rfl X.sb rfl rfl, ldAt H 4 rfl X.st rfl rfl, ?_⟩
            refine app1B (E := eI) TI H 7 rfl 2 rfl (0) rfl b3 c3 fun s2 h H => ?_
            refine ⟨ldAt H 4 rfl X.st rfl rfl, ?_⟩
            refine app1B (E := eI) TI H 8 rfl 3 rfl (0) rfl b4 c4 fun s3 h H => ?_
            exact leafA (H.drop 4) rfl fun h H => ⟨s0, s1, s2, s3, H⟩
        · refine allocAt (cs := [.int .i64 (0)]) H fun h b H => ?_
          refine ⟨ldAt H 3 rfl X.sc rfl rfl, ldAt H 3 rfl X.sr rfl rfl, ldAt H 3 rfl X.sb rfl rfl, ldAt H 3 rfl X.st rfl rfl, ?_⟩
          refine allocAt (cs := [.int .i64 (0)]) H fun h b H => ?_
          refine ⟨ldAt H 4 rfl X.sc rfl rfl, ldAt H 4 rfl X.sr rfl rfl, ldAt H 4 rfl X.sb rfl rfl, ldAt H 4 rfl X.st rfl rfl, ?_⟩
          refine app1B (E := eI) TI H 5 rfl 0 rfl (0) rfl b1 c1 fun s0 h H => ?_
          refine ⟨ldAt H 4 rfl X.sr rfl rfl, ldAt H 4 rfl X.sb rfl rfl, ldAt H 4 rfl X.st rfl rfl, ?_⟩
          refine app1B (E := eI) TI H 6 rfl 1 rfl (0) rfl b2 c2 fun s1 h H => ?_
          refine ⟨ldAt H 4 rfl X.sb rfl rfl, ldAt H 4 rfl X.st rfl rfl, ?_⟩
          refine app1B (E := eI) TI H 7 rfl 2 rfl (0) rfl b3 c3 fun s2 h H => ?_
          refine ⟨ldAt H 4 rfl X.st rfl rfl, ?_⟩
          refine app1B (E := eI) TI H 8 rfl 3 rfl (0) rfl b4 c4 fun s3 h H => ?_
          exact leafA (H.drop 4) rfl fun h H => ⟨s0, s1, s2, s3, H⟩
  · obtain rfl : j = k := by omega
    exact hR d _ sc sr sb st sw sp H
end Go.Proofs.Ytegbnmaglkpkjaa
